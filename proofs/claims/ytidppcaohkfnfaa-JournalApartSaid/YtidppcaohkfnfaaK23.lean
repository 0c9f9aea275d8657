
/-
  JournalApart: the law's walk.
-/
import Derived.Test.YtidppcaohkfnfaaK22
import Derived.Test.YtidppcaohkfnfaaK25
namespace Go.Proofs.Ytidppcaohkfnfaa
open Go.RowKit

theorem kind_of (a : Int) : ∃ k : Nat, k ≤ 255 ∧ wrap64 ((IntKind.u64.wrap a).tmod 256) = (k : Int) := by
  have hu1 : 0 ≤ IntKind.u64.wrap a := by rw [IntKind.wrap_u64]; omega
  generalize IntKind.u64.wrap a = u at hu1 ⊢
  rw [Int.tmod_eq_emod_of_nonneg hu1]
  have h1 : 0 ≤ u % 256 := Int.emod_nonneg _ (by omega)
  have h2 : u % 256 < 256 := Int.emod_lt_of_pos _ (by omega)
  rw [IntWalk.wrap64_in _ (by omega)]
  exact ⟨(u % 256).toNat, by omega, by omega⟩
theorem u8_of {x : Int} (h0 : 0 ≤ x) (h1 : x ≤ 255) : ∃ u : UInt8, x = (u.toNat : Int) := by
  refine ⟨UInt8.ofNat x.toNat, ?_⟩
  rw [UInt8.toNat_ofNat']
  omega
theorem u8_plus (c : UInt8) : ∃ u : UInt8, ((c.toNat : Int) + 1) % 256 = (u.toNat : Int) := by
  refine ⟨UInt8.ofNat (c.toNat + 1), ?_⟩
  rw [UInt8.toNat_ofNat']
  omega

theorem step_app8g (w : World) {ops : Array Oper} {o : Oper} {a : Act} {Q : Exit → Act → World → Prop} {K : Act → World → Prop} {E : Prop} (hgd : o.guard = none) (s x : Operand)
    (ho : o.op = .call { callee := .builtin .append, args := #[s, x], argTypes := #[29, 29] })
    (base : Nat) (v : Value) (l : List UInt8) (hs : a.eval s = v) (hown : OB w base v l)
    (A : Option Addr) (m c : Nat) (l' : List UInt8) (hx : a.eval x = .slice A m c) (hr : RB w A m l')
    (hb : l.length + m ≤ 140737488355328) (hbase : base ≤ w.heap.size)
    (h : ∀ v' w', OB w' base v' (l ++ l') → w.grownBy w' v.ownBlock → (v'.ownBlock = v.ownBlock ∨ v'.ownBlock = some w.heap.size) → K (a.put o.dst v') w') :
    if Region.wanted o (yielded ops a.tmps) = true then Oper.wp Try.prog o a w K Q else E := by
  obtain ⟨i, hi, hz0, hz1, hz2⟩ := info_parts u8_info
  have hm := hr.len
  refine step_append_any w hgd s x 29 ho base 5 i (.int .u8 0) 1 1 Try.underlying29 hi hz0 hz1 hz2 rfl (by decide) v l.length (B8 l) hs hown w.heap.size A m c (B8 l') hx hr (B8_one _) (by simp only [maxLen]; omega) (by omega) hbase ?_
  intro v' w' h1 h2 h3
  refine h v' w' ?_ h2 h3
  unfold OB
  rw [List.length_append, B8_append, ← hm]
  exact h1

set_option maxHeartbeats 4000000 in
set_option maxRecDepth 100000 in
theorem journalApart_walk (e0 : Me) (kb : Int) (w : World) (hm : e0.Ok (fun k => k < w.heap.size) w) (hk : 0 ≤ kb ∧ kb ≤ 255) :
    Calls Try.prog 7 #[e0.val, .int .u8 kb] w (Tells w true) := by
  have f0 : Below w.heap.size w (w.alloc (.cells #[.int .i64 e0.kind, .string e0.key, .slice e0.A e0.n e0.c] 45)) := (Below.refl _ w).al _
  have x0 := Blk.new w 45 #[.int .i64 e0.kind, .string e0.key, .slice e0.A e0.n e0.c]
  have z0 : (w.alloc (.cells #[.int .i64 e0.kind, .string e0.key, .slice e0.A e0.n e0.c] 45)).heap.size = w.heap.size + 1 := by simp
  have f1 : Below w.heap.size w ((w.alloc (.cells #[.int .i64 e0.kind, .string e0.key, .slice e0.A e0.n e0.c] 45)).alloc (.cells #[.int .i64 e0.kind, .string e0.key, .slice e0.A e0.n e0.c] 45)) := f0.al _
  have hins : Ins ((w.alloc (.cells #[.int .i64 e0.kind, .string e0.key, .slice e0.A e0.n e0.c] 45)).alloc (.cells #[.int .i64 e0.kind, .string e0.key, .slice e0.A e0.n e0.c] 45)) (some ⟨w.heap.size + 1, 0, none⟩) 1 1 [e0] := by
    have h1 := new_entry (w.alloc (.cells #[.int .i64 e0.kind, .string e0.key, .slice e0.A e0.n e0.c] 45)) 45 e0
    rw [z0] at h1
    have h2 : meCells [e0] = e0.cells := by simp [meCells]
    refine ⟨?_, rfl, Nat.le_refl _, by decide, fun m hm' => ?_⟩
    · rw [h2]
      exact h1.more (by simp)
    · obtain rfl := List.mem_singleton.1 hm'
      exact (hm.below f1).mono (fun q hq _ => hq)
  have CU := Lib.hid (cut_any' _ 1 1 [e0] 1 _ hins (by decide))
  have HM := Lib.hid ((hm.below f1).cut)
  have X1 := Lib.hid (x0.alloc (.cells #[.int .i64 e0.kind, .string e0.key, .slice e0.A e0.n e0.c] 45))
  have F1 := Lib.hid f1
  clear f0 x0 f1 hins hm
  unfold Me.val
  go_enter Try.func7, Try.ntmps7
  go_wp2_with fail
  generalize (w.alloc (.cells #[.int .i64 e0.kind, .string e0.key, .slice e0.A e0.n e0.c] 45)).alloc (.cells #[.int .i64 e0.kind, .string e0.key, .slice e0.A e0.n e0.c] 45) = W1 at *
  refine CU.out.mono ?_
  rintro e w2 ⟨A10, n10, c10, rfl, hn10, hm10, hc10, hcm10, r10, ok10, b9⟩
  obtain rfl : n10 = 1 := hn10
  have hcell : meCells (([e0].take 1).map cutM) = (cutM e0).cells := by simp [meCells]
  rw [hcell] at r10
  have hmx := Lib.hid (HM.out.below b9)
  have hm60 := (cutM_len e0).1
  have hm70 := (cutM_len e0).2
  have X2 : Blk w2 w.heap.size 45 #[.int .i64 e0.kind, .string e0.key, .slice e0.A e0.n e0.c] := X1.out.below b9 X1.out.lt
  have F2 := Lib.hid (F1.out.then_ b9)
  generalize cutM e0 = mx at *
  obtain ⟨b, o, rfl, hb, hcl⟩ := r10.chunk (k := 0) (by omega) (by omega) (show ((mx.cells).drop (0 * 3)).take 3 = mx.cells from rfl)
  rw [Nat.zero_mul, Nat.add_zero] at hcl
  have q0 : w2.cell? ⟨b, o, none⟩ = some (.int .i64 mx.kind) := hcl 0 _ rfl
  have q1 : w2.cell? ⟨b, o + 1, none⟩ = some (.string mx.key) := hcl 1 _ rfl
  have q2 : w2.cell? ⟨b, o + 2, none⟩ = some (.slice mx.A mx.n mx.c) := hcl 2 _ rfl
  have s0 : w2.cell? ⟨w.heap.size, 0, none⟩ = some (.int .i64 e0.kind) := X2.cell 0
  have s1 : w2.cell? ⟨w.heap.size, 1, none⟩ = some (.string e0.key) := X2.cell 1
  have s2 : w2.cell? ⟨w.heap.size, 2, none⟩ = some (.slice e0.A e0.n e0.c) := X2.cell 2
  have t0 := X2.frozen 0
  have t1 := X2.frozen 1
  have t2 := X2.frozen 2
  clear CU HM hcl r10 ok10 hcell X1 F1
  go_upto_region 2 with fail
  have X3 := X2.rput (.int .i64 mx.kind) (.string mx.key) (.slice mx.A mx.n mx.c)
  have K3 : Kept (fun z => z = w.heap.size) w2 (((w2.setCell ⟨w.heap.size, 0, none⟩ (.int .i64 mx.kind)).setCell ⟨w.heap.size, 1, none⟩ (.string mx.key)).setCell ⟨w.heap.size, 2, none⟩ (.slice mx.A mx.n mx.c)) :=
    (((Kept.refl (fun z => z = w.heap.size) w2).setCell (p := ⟨w.heap.size, 0, none⟩) (fun _ => rfl) _).setCell (p := ⟨w.heap.size, 1, none⟩) (fun _ => rfl) _).setCell (p := ⟨w.heap.size, 2, none⟩) (fun _ => rfl) _
  generalize ((w2.setCell ⟨w.heap.size, 0, none⟩ (.int .i64 mx.kind)).setCell ⟨w.heap.size, 1, none⟩ (.string mx.key)).setCell ⟨w.heap.size, 2, none⟩ (.slice mx.A mx.n mx.c) = W3 at *
  have F3 : Hid (Below w.heap.size w W3) := F2.out.trans (K3.to_below F2.out.size (fun q hq e => by omega))
  have OK3 := Lib.hid (hmx.out.kept K3 (fun q hq e => by omega))
  clear s0 s1 s2 t0 t1 t2 q0 q1 q2 hb K3 X2 F2 hmx
  have s0 : W3.cell? ⟨w.heap.size, 0, none⟩ = some (.int .i64 mx.kind) := X3.cell 0
  have s1 : W3.cell? ⟨w.heap.size, 1, none⟩ = some (.string mx.key) := X3.cell 1
  have s2 : W3.cell? ⟨w.heap.size, 2, none⟩ = some (.slice mx.A mx.n mx.c) := X3.cell 2
  have t0 := X3.frozen 0
  have t1 := X3.frozen 1
  obtain ⟨kd, hkd, hkw⟩ := kind_of mx.kind
  obtain ⟨k1, hk1⟩ : ∃ k1, k1 = min mx.key.size 64 := ⟨_, rfl⟩
  have m1 : min (mx.key.size : Int) 64 = (k1 : Int) := by omega
  have m3 : (0 : Int) ≤ (k1 : Int) := by omega
  have m4 : (k1 : Int) ≤ (mx.key.size : Int) := by omega
  have hk64 : k1 ≤ 64 := by omega
  have HK1 := Lib.hid hk1
  clear hk1
  go_region
  have X4 : Blk ((W3.setCell ⟨w.heap.size, 0, none⟩ (.int .i64 (kd : Int))).setCell ⟨w.heap.size, 1, none⟩ (.string (mx.key.extract 0 k1))).drew w.heap.size 45 #[.int .i64 (kd : Int), .string (mx.key.extract 0 k1), .slice mx.A mx.n mx.c] := ((X3.set_ 0 (.int .i64 (kd : Int))).set_ 1 (.string (mx.key.extract 0 k1))).drew
  have K4 : Kept (fun z => z = w.heap.size) W3 ((W3.setCell ⟨w.heap.size, 0, none⟩ (.int .i64 (kd : Int))).setCell ⟨w.heap.size, 1, none⟩ (.string (mx.key.extract 0 k1))).drew :=
    (((Kept.refl (fun z => z = w.heap.size) W3).setCell (p := ⟨w.heap.size, 0, none⟩) (fun _ => rfl) _).setCell (p := ⟨w.heap.size, 1, none⟩) (fun _ => rfl) _).drew
  generalize ((W3.setCell ⟨w.heap.size, 0, none⟩ (.int .i64 (kd : Int))).setCell ⟨w.heap.size, 1, none⟩ (.string (mx.key.extract 0 k1))).drew = W4 at *
  have F4 : Hid (Below w.heap.size w W4) := F3.out.trans (K4.to_below F3.out.size (fun q hq e => by omega))
  have OK4 := Lib.hid (OK3.out.kept K4 (fun q hq e => by omega))
  obtain ⟨ky, hky⟩ : ∃ ky, mx.key.extract 0 k1 = ky := ⟨_, rfl⟩
  have hkys : ky.size ≤ 64 := by rw [← hky, ByteArray.size_extract]; omega
  rw [hky] at X4 ⊢
  have X4h := Lib.hid X4
  have R4 := Lib.hid OK4.out.rb
  have HBL : Hid (mx.n = mx.body.length) := OK4.out.len
  clear s0 s1 s2 t0 t1 hkw m1 m3 m4 K4 X3 F3 OK3 hky HK1 hk64
  have s0 : W4.cell? ⟨w.heap.size, 0, none⟩ = some (.int .i64 (kd : Int)) := X4.cell 0
  have s1 : W4.cell? ⟨w.heap.size, 1, none⟩ = some (.string ky) := X4.cell 1
  have s2 : W4.cell? ⟨w.heap.size, 2, none⟩ = some (.slice mx.A mx.n mx.c) := X4.cell 2
  have z4 : w.heap.size < W4.heap.size := X4.lt
  clear X4
  go_upto_region 4 with (at_builtin; refine wpList_app8 _ rfl (.tmp 34) (.tmp 36) rfl W4.heap.size _ [] rfl (OB.made W4 _ (Nat.le_refl _)) mx.A mx.n mx.c mx.body rfl (R4.out.alloc _) (by simp; omega) (by simp) ?_; intro v5 w5 o5 b5; have X5 := (X4h.out.alloc (.cells #[] 5)).below b5 z4; have y0 : w5.cell? ⟨w.heap.size, 0, none⟩ = some (.int .i64 (kd : Int)) := X5.cell 0; have y1 : w5.cell? ⟨w.heap.size, 1, none⟩ = some (.string ky) := X5.cell 1; have y2 : w5.cell? ⟨w.heap.size, 2, none⟩ = some (.slice mx.A mx.n mx.c) := X5.cell 2; have y3 := X5.frozen 2; obtain ⟨A5, n5, c5, rfl, hn5, hc5, r5⟩ := o5.got)
  rw [List.nil_append] at o5 r5
  obtain rfl : n5 = mx.n := by have := r5.len; have := HBL.out; omega
  have X6 : Blk (w5.setCell ⟨w.heap.size, 2, none⟩ (.slice A5 mx.n c5)) w.heap.size 45 #[.int .i64 (kd : Int), .string ky, .slice A5 mx.n c5] := X5.set_ 2 (.slice A5 mx.n c5)
  have K6 : Kept (fun z => z = w.heap.size) w5 (w5.setCell ⟨w.heap.size, 2, none⟩ (.slice A5 mx.n c5)) := (Kept.refl (fun z => z = w.heap.size) w5).setCell (p := ⟨w.heap.size, 2, none⟩) (fun _ => rfl) _
  have o6 := o5.setLow (p := ⟨w.heap.size, 2, none⟩) z4 (.slice A5 mx.n c5)
  generalize w5.setCell ⟨w.heap.size, 2, none⟩ (.slice A5 mx.n c5) = W6 at *
  have F6 : Hid (Below w.heap.size w W6) := (F4.out.trans (((Below.refl _ W4).alloc (Nat.le_refl _) _).trans b5 |>.mono (Nat.le_of_lt z4))).trans (K6.to_below (by have := b5.size; simp at this; omega) (fun q hq e => by omega))
  have X6h := Lib.hid X6
  have o6h := Lib.hid o6
  have HBL2 := Lib.hid (o6.rb)
  have z5 := b5.size
  have z6 := K6.size
  have e4 : (W4.alloc (.cells #[] 5)).heap.size = W4.heap.size + 1 := by simp
  have z46 : W4.heap.size < W6.heap.size := by omega
  clear s0 s1 s2 y0 y1 y2 y3 X5 K6 o5 r5 b5 X4h R4 F4 OK4 HBL z5 z6 e4
  have s0 : W6.cell? ⟨w.heap.size, 0, none⟩ = some (.int .i64 (kd : Int)) := X6h.out.cell 0
  have s1 : W6.cell? ⟨w.heap.size, 1, none⟩ = some (.string ky) := X6h.out.cell 1
  have s2 : W6.cell? ⟨w.heap.size, 2, none⟩ = some (.slice A5 mx.n c5) := X6h.out.cell 2
  have hal : ∀ (W : World) (o : Obj) (i : Nat), w.heap.size < W.heap.size → (W.alloc o).cell? ⟨w.heap.size, i, none⟩ = W.cell? ⟨w.heap.size, i, none⟩ := fun W o i h => World.cell?_alloc_lt W o _ h
  have hl0 : w.heap.size < W6.heap.size := by omega
  have FA : Hid (∀ W, Below W6.heap.size W6 W → w.heap.size < W.heap.size ∧ W.cell? ⟨w.heap.size, 0, none⟩ = some (.int .i64 (kd : Int)) ∧ W.cell? ⟨w.heap.size, 1, none⟩ = some (.string ky) ∧ W.cell? ⟨w.heap.size, 2, none⟩ = some (.slice A5 mx.n c5)) := fun W hW => by
    have X7 := X6h.out.below hW hl0
    exact ⟨X7.lt, X7.cell 0, X7.cell 1, X7.cell 2⟩
  have FSt : Hid (∀ (W : World) (g : Nat) (v0 v1 v2 : Value), w.heap.size ≠ g → (W.cell? ⟨w.heap.size, 0, none⟩ = some (.int .i64 (kd : Int)) ∧ W.cell? ⟨w.heap.size, 1, none⟩ = some (.string ky) ∧ W.cell? ⟨w.heap.size, 2, none⟩ = some (.slice A5 mx.n c5)) → ((((W.setCell ⟨g, 0, none⟩ v0).setCell ⟨g, 1, none⟩ v1).setCell ⟨g, 2, none⟩ v2).cell? ⟨w.heap.size, 0, none⟩ = some (.int .i64 (kd : Int)) ∧ (((W.setCell ⟨g, 0, none⟩ v0).setCell ⟨g, 1, none⟩ v1).setCell ⟨g, 2, none⟩ v2).cell? ⟨w.heap.size, 1, none⟩ = some (.string ky) ∧ (((W.setCell ⟨g, 0, none⟩ v0).setCell ⟨g, 1, none⟩ v1).setCell ⟨g, 2, none⟩ v2).cell? ⟨w.heap.size, 2, none⟩ = some (.slice A5 mx.n c5))) := fun W g v0 v1 v2 hg ⟨a0, a1, a2⟩ => by
    have key : ∀ i, (((W.setCell ⟨g, 0, none⟩ v0).setCell ⟨g, 1, none⟩ v1).setCell ⟨g, 2, none⟩ v2).cell? ⟨w.heap.size, i, none⟩ = W.cell? ⟨w.heap.size, i, none⟩ := fun i => by
      rw [World.cell?_setCell_far _ _ _ _ (Ne.symm hg), World.cell?_setCell_far _ _ _ _ (Ne.symm hg), World.cell?_setCell_far _ _ _ _ (Ne.symm hg)]
    exact ⟨(key 0).trans a0, (key 1).trans a1, (key 2).trans a2⟩
  have n1 : w.heap.size ≠ W6.heap.size := by omega
  have n2 : w.heap.size ≠ W6.heap.size + 1 := by omega
  have bD : Below W6.heap.size W6 W6.drew := (Below.refl _ W6).drew
  have qq := Lib.hid (FA.out _ bD).2
  have bA : Hid (∀ o, Below W6.heap.size W6 (W6.alloc o).drew) := fun o => ((Below.refl _ W6).alloc (Nat.le_refl _) o).drew
  have qqa : Hid (∀ o, (W6.alloc o).drew.cell? ⟨w.heap.size, 0, none⟩ = some (.int .i64 (kd : Int)) ∧ (W6.alloc o).drew.cell? ⟨w.heap.size, 1, none⟩ = some (.string ky) ∧ (W6.alloc o).drew.cell? ⟨w.heap.size, 2, none⟩ = some (.slice A5 mx.n c5)) := fun o => (FA.out _ (bA.out o)).2
  have bB : Hid (∀ o o', Below W6.heap.size W6 ((W6.alloc o).alloc o').drew) := fun o o' => (((Below.refl _ W6).alloc (Nat.le_refl _) o).alloc (by simp) o').drew
  have qqb : Hid (∀ o o', ((W6.alloc o).alloc o').drew.cell? ⟨w.heap.size, 0, none⟩ = some (.int .i64 (kd : Int)) ∧ ((W6.alloc o).alloc o').drew.cell? ⟨w.heap.size, 1, none⟩ = some (.string ky) ∧ ((W6.alloc o).alloc o').drew.cell? ⟨w.heap.size, 2, none⟩ = some (.slice A5 mx.n c5)) := fun o o' => (FA.out _ (bB.out o o')).2
  have d0 : W6.drew.heap.size = W6.heap.size := rfl
  have e61 : ∀ o, (W6.alloc o).heap.size = W6.heap.size + 1 := fun o => by simp
  have OA : Hid (OB (W6.alloc (.cells #[] 5)).drew W6.heap.size (.slice (some ⟨W6.heap.size, 0, none⟩) 0 0) []) := (OB.made W6 _ (Nat.le_refl _)).drew
  have RA := Lib.hid ((HBL2.out.alloc (.cells #[] 5)).drew)
  have OBB : Hid (OB ((W6.alloc (.cells #[] 5)).alloc (.cells #[.int .i64 0, .string ⟨#[]⟩, .slice none 0 0] 31)).drew W6.heap.size (.slice (some ⟨W6.heap.size, 0, none⟩) 0 0) []) := ((OB.made W6 _ (Nat.le_refl _)).alloc _).drew
  have RBB := Lib.hid (((HBL2.out.alloc (.cells #[] 5)).alloc (.cells #[.int .i64 0, .string ⟨#[]⟩, .slice none 0 0] 31)).drew)
  have XB : Hid (Blk ((W6.alloc (.cells #[] 5)).alloc (.cells #[.int .i64 0, .string ⟨#[]⟩, .slice none 0 0] 31)).drew (W6.heap.size + 1) 31 #[.int .i64 0, .string ⟨#[]⟩, .slice none 0 0]) := by
    have := Blk.new (W6.alloc (.cells #[] 5)) 31 #[.int .i64 0, .string ⟨#[]⟩, .slice none 0 0]
    rw [e61] at this
    exact this.drew
  have OC : Hid (OB ((W6.alloc (.cells #[.int .i64 0, .string ⟨#[]⟩, .slice none 0 0] 31)).alloc (.cells #[] 5)).drew W6.heap.size (.slice (some ⟨W6.heap.size + 1, 0, none⟩) 0 0) []) := by
    have := OB.made (W6.alloc (.cells #[.int .i64 0, .string ⟨#[]⟩, .slice none 0 0] 31)) W6.heap.size (by rw [e61]; omega)
    rw [e61] at this
    exact this.drew
  have RC := Lib.hid (((HBL2.out.alloc (.cells #[.int .i64 0, .string ⟨#[]⟩, .slice none 0 0] 31)).alloc (.cells #[] 5)).drew)
  have XC : Hid (Blk ((W6.alloc (.cells #[.int .i64 0, .string ⟨#[]⟩, .slice none 0 0] 31)).alloc (.cells #[] 5)).drew W6.heap.size 31 #[.int .i64 0, .string ⟨#[]⟩, .slice none 0 0]) := ((Blk.new W6 _ _).alloc _).drew
  have zA : W6.heap.size ≤ (W6.alloc (.cells #[] 5)).drew.heap.size := (bA.out _).size
  have zB : W6.heap.size ≤ ((W6.alloc (.cells #[] 5)).alloc (.cells #[.int .i64 0, .string ⟨#[]⟩, .slice none 0 0] 31)).drew.heap.size := (bB.out _ _).size
  have zC : W6.heap.size ≤ ((W6.alloc (.cells #[.int .i64 0, .string ⟨#[]⟩, .slice none 0 0] 31)).alloc (.cells #[] 5)).drew.heap.size := (bB.out _ _).size
  have nB : Hid (some (W6.heap.size + 1) ≠ Value.ownBlock (.slice (some ⟨W6.heap.size, 0, none⟩) 0 0)) := fun e => by
    have e2 : some (W6.heap.size + 1) = some W6.heap.size := e
    simp at e2
  have nC : Hid (some W6.heap.size ≠ Value.ownBlock (.slice (some ⟨W6.heap.size + 1, 0, none⟩) 0 0)) := fun e => by
    have e2 : some W6.heap.size = some (W6.heap.size + 1) := e
    simp at e2
  clear hal s0 s1 s2 bD e61
  go_cut [5] (fun v wc => ∃ g5 A7 c7, v = .pointer (some ⟨g5, 0, none⟩) ∧ Hid (Blk wc g5 31 #[.int .i64 kd, .string ky, .slice A7 mx.n c7]) ∧ Hid (OB wc W6.heap.size (.slice A7 mx.n c7) mx.body) ∧ Hid (W6.heap.size ≤ g5) ∧ Hid (Below W6.heap.size W6 wc))
  case first =>
    go_region_held3 (fun W => W.cell? ⟨w.heap.size, 0, none⟩ = some (.int .i64 (kd : Int)) ∧ W.cell? ⟨w.heap.size, 1, none⟩ = some (.string ky) ∧ W.cell? ⟨w.heap.size, 2, none⟩ = some (.slice A5 mx.n c5))
      (first | (with_reducible exact qq.out) | (with_reducible exact qqa.out _) | (with_reducible exact qqb.out _ _) | (with_reducible exact q7) | (with_reducible exact q7a _) | (with_reducible exact FSt.out _ _ _ _ _ n1 q7) | (with_reducible exact FSt.out _ _ _ _ _ n2 q7) | (with_reducible exact FSt.out _ _ _ _ _ n7 (q7a _)))
      (first
      | (refine step_app8g _ (by rfl) (.tmp 43) (.tmp 45) (by rfl) W6.heap.size (.slice (some ⟨W6.heap.size, 0, none⟩) 0 0) [] (by rfl) ?_ A5 mx.n c5 mx.body (by rfl) ?_ ?_ ?_ ?_; (exact OA.out); (exact RA.out); (simp; omega); (exact zA); intro v7 w7 o7 g7 at7; obtain ⟨A7, n7, c7, rfl, hn7, hc7, r7⟩ := o7.got; rw [List.nil_append] at o7 r7; obtain rfl : n7 = mx.n := (by have h1 := r7.len; have h2 := HBL2.out.len; omega); have FB := (bA.out _).trans (OA.out.grown g7 zA); have q7 := (FA.out _ FB).2; have q7a := fun o => (FA.out _ (FB.alloc FB.size o)).2; have n7 : w.heap.size ≠ w7.heap.size := (by have := FB.size; omega))
      | (refine step_app8g _ (by rfl) (.tmp 43) (.tmp 45) (by rfl) W6.heap.size (.slice (some ⟨W6.heap.size, 0, none⟩) 0 0) [] (by rfl) ?_ A5 mx.n c5 mx.body (by rfl) ?_ ?_ ?_ ?_; (exact OBB.out); (exact RBB.out); (simp; omega); (exact zB); intro v7 w7 o7 g7 at7; obtain ⟨A7, n7, c7, rfl, hn7, hc7, r7⟩ := o7.got; rw [List.nil_append] at o7 r7; obtain rfl : n7 = mx.n := (by have h1 := r7.len; have h2 := HBL2.out.len; omega); have FB := (bB.out _ _).trans (OBB.out.grown g7 zB); have q7 := (FA.out _ FB).2; have q7a := fun o => (FA.out _ (FB.alloc FB.size o)).2; have n7 : w.heap.size ≠ w7.heap.size := (by have := FB.size; omega); have oo7 := (fun x y z => own_other o7 (Kept.rput w7 (W6.heap.size + 1) x y z) (fun q hq e => by rcases at7 with h | h <;> (rw [h] at hq; injection hq with hq; simp at hq; omega))); have E7 : Blk w7 (W6.heap.size + 1) 31 #[.int .i64 0, .string ⟨#[]⟩, .slice none 0 0] := Blk.grown XB.out g7 nB.out; have f0 : w7.cell? ⟨W6.heap.size + 1, 0, none⟩ = some (.int .i64 0) := E7.cell 0; have f1 : w7.cell? ⟨W6.heap.size + 1, 1, none⟩ = some (.string ⟨#[]⟩) := E7.cell 1; have f2 : w7.cell? ⟨W6.heap.size + 1, 2, none⟩ = some (.slice none 0 0) := E7.cell 2; have f3 := E7.frozen 0; have f4 := E7.frozen 1; have f5 := E7.frozen 2)
      | (refine step_app8g _ (by rfl) (.tmp 43) (.tmp 45) (by rfl) W6.heap.size (.slice (some ⟨W6.heap.size + 1, 0, none⟩) 0 0) [] (by rfl) ?_ A5 mx.n c5 mx.body (by rfl) ?_ ?_ ?_ ?_; (exact OC.out); (exact RC.out); (simp; omega); (exact zC); intro v7 w7 o7 g7 at7; obtain ⟨A7, n7, c7, rfl, hn7, hc7, r7⟩ := o7.got; rw [List.nil_append] at o7 r7; obtain rfl : n7 = mx.n := (by have h1 := r7.len; have h2 := HBL2.out.len; omega); have FB := (bB.out _ _).trans (OC.out.grown g7 zC); have q7 := (FA.out _ FB).2; have q7a := fun o => (FA.out _ (FB.alloc FB.size o)).2; have n7 : w.heap.size ≠ w7.heap.size := (by have := FB.size; omega); have oo7 := (fun x y z => own_other o7 (Kept.rput w7 W6.heap.size x y z) (fun q hq e => by rcases at7 with h | h <;> (rw [h] at hq; injection hq with hq; simp at hq; omega))); have E7 : Blk w7 (W6.heap.size) 31 #[.int .i64 0, .string ⟨#[]⟩, .slice none 0 0] := Blk.grown XC.out g7 nC.out; have f0 : w7.cell? ⟨W6.heap.size, 0, none⟩ = some (.int .i64 0) := E7.cell 0; have f1 : w7.cell? ⟨W6.heap.size, 1, none⟩ = some (.string ⟨#[]⟩) := E7.cell 1; have f2 : w7.cell? ⟨W6.heap.size, 2, none⟩ = some (.slice none 0 0) := E7.cell 2; have f3 := E7.frozen 0; have f4 := E7.frozen 1; have f5 := E7.frozen 2))
    all_goals
      go_wp2_with fail
      go_meet
      case rel => first
        | exact ⟨w7.heap.size, A7, c7, rfl, Blk.new _ _ _, OB.alloc o7 _, FB.size, FB.al _⟩
        | exact ⟨W6.heap.size + 1, A7, c7, rfl, Blk.rput E7 _ _ _, oo7 _ _ _, Nat.le_succ _, ((FB.setCell (Nat.le_succ _) _).setCell (Nat.le_succ _) _).setCell (Nat.le_succ _) _⟩
        | exact ⟨W6.heap.size, A7, c7, rfl, Blk.rput E7 _ _ _, oo7 _ _ _, Nat.le_refl _, ((FB.setCell (Nat.le_refl _) _).setCell (Nat.le_refl _) _).setCell (Nat.le_refl _) _⟩
  case rest =>
    obtain ⟨g5, A7, c7, rfl, hB5, hO7, hg5, hb5⟩ := hcut
    obtain ⟨W8, rfl⟩ : ∃ x, x = wc := ⟨_, rfl⟩
    clear FA FSt n1 n2 qq bA qqa bB qqb d0 OA RA OBB RBB XB OC RC XC zA zB zC nB nC
    have hbl := HBL2.out.len
    generalize mx.n = n at *
    generalize mx.body = bd at *
    have HBD := Lib.hid hbl
    have X8 := Lib.hid (X6h.out.below hb5.out hl0)
    have O8 := Lib.hid (OB.below o6h.out hb5.out (Nat.le_refl _))
    have hA5 : Hid (∀ q, Value.ownBlock (.slice A5 n c5) = some q → W4.heap.size ≤ q ∧ q < W6.heap.size) := o6h.out.block
    have hA7 : Hid (∀ q, Value.ownBlock (.slice A7 n c7) = some q → W6.heap.size ≤ q ∧ q < W8.heap.size) := hO7.out.block
    have hg58 : Hid (g5 < W8.heap.size) := hB5.out.lt
    have F8 : Hid (Below w.heap.size w W8) := F6.out.trans (hb5.out.mono F6.out.size)
    have zz8 : W6.heap.size ≤ W8.heap.size := hb5.out.size
    have hn7 : n ≤ c7 ∧ c7 ≤ 9223372036854775807 := by
      obtain ⟨A', n', c', e, h1, h2, -⟩ := hO7.out.got
      injection e with e1 e2 e3
      subst e1 e2 e3
      unfold maxLen at h2
      exact ⟨h1, h2⟩
    unfold maxLen at hc5
    clear hbl o6h HBL2 hb5 X6h F6
    go_wp2_with fail
    refine (new_any W8).mono ?_
    intro e w9 hnew
    obtain ⟨S, g, rfl, j9, hS, b9⟩ := Jn.of_new hnew
    clear hnew
    have HJ9 := Lib.hid j9
    have HS := Lib.hid hS
    have X9 := Lib.hid (X8.out.below b9 X8.out.lt)
    have OE9 := Lib.hid (OB.below O8.out b9 (Nat.le_refl _))
    have OW9 := Lib.hid (OB.below hO7.out b9 (Nat.le_refl _))
    have B59 := Lib.hid (hB5.out.below b9 hg58.out)
    have F9 := Lib.hid (F8.out.then_ b9)
    have zz9 := b9.size
    have hz8 : w.heap.size < W8.heap.size := by omega
    have s0 : w9.cell? ⟨w.heap.size, 0, none⟩ = some (.int .i64 (kd : Int)) := X9.out.cell 0
    have s1 : w9.cell? ⟨w.heap.size, 1, none⟩ = some (.string ky) := X9.out.cell 1
    have s2 : w9.cell? ⟨w.heap.size, 2, none⟩ = some (.slice A5 n c5) := X9.out.cell 2
    have OKE : Hid (Me.Ok (fun k => k < W8.heap.size) w9 ⟨(kd : Int), ky, A5, n, c5, bd⟩) := by
      refine ⟨by simp only; omega, by simp only; omega, by simp only; omega, hn5, hc5, ?_⟩
      have h1 := OE9.out.rin
      refine ⟨h1.1, fun h => ?_⟩
      obtain ⟨a, ha, hb, hc⟩ := h1.2 h
      refine ⟨a, ha, ?_, hc⟩
      have := hA5.out a.block (by rw [ha]; rfl)
      omega
    have RIE : Me.Right ⟨(kd : Int), ky, A5, n, c5, bd⟩ := ⟨by simp only; omega, by simp only; omega, hkys, by simp only; omega⟩
    have ADD := Lib.hid (add_yes S (fun k => k < W8.heap.size) g [] _ w9 HJ9.out OKE.out RIE (by simp) (fun k hk hs => by have := HS.out k hs; omega))
    unfold Me.val at ADD
    clear j9 hS b9 X8 O8 hO7 hB5 F8
    go_wp2_with fail
    refine ADD.out.mono ?_
    rintro e w10 ⟨v, S2, B, rfl, j10, hS2, hSS, o10, hB10, k10⟩
    obtain ⟨Ab, cb, rfl, hb1, hb2, rb⟩ := o10.form
    obtain ⟨en, hen⟩ : ∃ en : En, Me.en ⟨(kd : Int), ky, A5, n, c5, bd⟩ = en := ⟨_, rfl⟩
    have HEN : Hid (en = ⟨(kd : Int), ky.data.toList, bd⟩) := hen.symm
    have ENR : Hid (en.Right) := by rw [Hid, ← hen]; exact (Me.right_en OKE.out).2 RIE
    rw [hen] at j10 o10 hb1 rb ⊢
    obtain ⟨nb, hnb⟩ : ∃ nb, (entryB D8 en).length = nb := ⟨_, rfl⟩
    have hnb11 : 11 ≤ nb := by rw [← hnb]; exact entryB_long en
    have hnb2 : nb ≤ 66000 := by rw [← hnb]; exact entryB_len ENR.out
    have HNB := Lib.hid hnb
    rw [hnb] at hb1 o10 rb ⊢
    have HJ10 := Lib.hid j10
    have OB10 := Lib.hid o10
    have zz10 := k10.size
    have hS8 : Hid (∀ k, S2 k → W8.heap.size ≤ k ∧ k < B) := fun k hk => by
      rcases hS2 k hk with h | h
      · have h1 := HS.out k h
        have h2 := HJ9.out.lt k h
        omega
      · omega
    have hBg : Hid (∀ q, Value.ownBlock (.slice Ab nb cb) = some q → B ≤ q ∧ q < w10.heap.size) := o10.block
    have X10 : Blk w10 w.heap.size 45 #[.int .i64 (kd : Int), .string ky, .slice A5 n c5] := X9.out.kept k10 (fun h => by have := HS.out _ h; omega)
    have B510 : Hid (Blk w10 g5 31 #[.int .i64 (kd : Int), .string ky, .slice A7 n c7]) := B59.out.kept k10 (fun h => by have h1 := HS.out _ h; have h2 := hg58.out; omega)
    have OE10 : Hid (OB w10 W4.heap.size (.slice A5 n c5) bd) := own_other OE9.out k10 (fun q hq h => by have h1 := HS.out _ h; have h2 := hA5.out q hq; omega)
    have OW10 : Hid (OB w10 W6.heap.size (.slice A7 n c7) bd) := own_other OW9.out k10 (fun q hq h => by have h1 := HS.out _ h; have h2 := hA7.out q hq; omega)
    have F10 : Hid (Below w.heap.size w w10) := F9.out.trans (k10.to_below F9.out.size (fun q hq h => by have h1 := HS.out _ h; omega))
    have hl10 := X10.lt
    have HX10 := Lib.hid X10
    have gnb : ¬ (nb : Int) = 0 := by omega
    have gnb' : ((nb : Int) == 0) = false := by simp; omega
    obtain ⟨ku, hku⟩ := u8_of hk.1 hk.2
    have HKU := Lib.hid hku
    clear ADD j10 hS2 hSS o10 k10 X9 B59 OE9 OW9 F9 HS HJ9 s0 s1 s2 hen hnb rb X10 hku
    go_wp2_with fail
    go_loopg [9] n (fun gk i wr => ∃ (k : Nat) (ys : List UInt8), gk = n - k ∧ k ≤ n ∧ i = .int .i64 k ∧ Hid (OB wr W4.heap.size (.slice A5 n c5) ys) ∧ Hid (Kept (fun z => Value.ownBlock (.slice A5 n c5) = some z) w10 wr))
    case atStart => exact ⟨0, bd, rfl, Nat.zero_le _, rfl, OE10, Kept.refl _ _⟩
    case round =>
      obtain ⟨k, ys, hgk, hk', rfl, oy, kr⟩ := hrel
      have HGK := Lib.hid hgk
      clear hgk
      have XR : Blk wr w.heap.size 45 #[.int .i64 (kd : Int), .string ky, .slice A5 n c5] := HX10.out.kept kr.out (fun h => by have := hA5.out _ h; omega)
      have HXR := Lib.hid XR
      have s2 : wr.cell? ⟨w.heap.size, 2, none⟩ = some (.slice A5 n c5) := XR.cell 2
      clear XR
      by_cases hlt : k < n
      · obtain ⟨a5, rfl, ha51, ha52, -⟩ := oy.out.addr (by omega)
        have hky2 : k < ys.length := by have := oy.out.rb.len; omega
        obtain ⟨hc1, hc2⟩ := oy.out.cell hky2
        have os := oy.out.store k HKU.out
        have OS := Lib.hid os.1
        have KS : Hid (Kept (fun z => Value.ownBlock (.slice (some ⟨a5, 0, none⟩) n c5) = some z) w10 (wr.setCell ⟨a5, k, none⟩ (.int .u8 kb))) := kr.out.then_ (Kept.of_grown (S := fun z => Value.ownBlock (.slice (some ⟨a5, 0, none⟩) n c5) = some z) os.2 (fun q e => e)) (fun _ _ h => h)
        have g1 : (0 : Int) ≤ (k : Int) := by omega
        have g2 : (k : Int) < (n : Int) := by omega
        clear os
        go_wp2_with fail
        go_roundg (n - (k + 1))
        case measure => have := HGK.out; omega
        case rel => exact ⟨k + 1, _, rfl, by omega, by go_num, OS, KS⟩
      · obtain rfl : k = n := by omega
        obtain ⟨w11, rfl⟩ : ∃ x, x = wr := ⟨_, rfl⟩
        have HJ11 : Hid (Jn w11 S2 g ([] ++ [en])) := HJ10.out.kept kr.out (fun q hq e => by have h1 := hA5.out _ e; have h2 := hS8.out q hq; omega)
        have OB11 : Hid (OB w11 B (.slice Ab nb cb) (entryB D8 en)) := own_other OB10.out kr.out (fun q hq e => by have h1 := hA5.out _ e; have h2 := hBg.out q hq; omega)
        have B511 : Hid (Blk w11 g5 31 #[.int .i64 (kd : Int), .string ky, .slice A7 k c7]) := B510.out.kept kr.out (fun e => by have h1 := hA5.out _ e; have h2 := hg5.out; omega)
        have OW11 : Hid (OB w11 W6.heap.size (.slice A7 k c7) bd) := own_other OW10.out kr.out (fun q hq e => by have h1 := hA5.out _ e; have h2 := hA7.out q hq; omega)
        have F11 : Hid (Below w.heap.size w w11) := F10.out.trans (kr.out.to_below F10.out.size (fun q hq e => by have h1 := hA5.out _ e; omega))
        have zz11 := kr.out.size
        obtain ⟨gb, rfl, hgb1, hgb2, -⟩ := OB11.out.addr (by omega)
        obtain ⟨hc1, hc2⟩ := OB11.out.cell (k := 0) (by rw [HNB.out]; omega)
        obtain ⟨u, hu⟩ := u8_plus ((entryB D8 en)[0]'(by rw [HNB.out]; omega))
        have HU := Lib.hid hu
        generalize (entryB D8 en)[0]'(by rw [HNB.out]; omega) = ub at *
        have g0 : (0 : Int) < (nb : Int) := by omega
        clear HJ10 OB10 B510 OW10 F10 HX10 oy kr hu OE10
        go_upto_region 16 with fail
        have os := OB11.out.store 0 HU.out
        have KG : Kept (fun z => z = gb) w11 (w11.setCell ⟨gb, 0, none⟩ (.int .u8 (((ub.toNat : Int) + 1) % 256))) := (Kept.refl (fun z => z = gb) w11).setCell (p := ⟨gb, 0, none⟩) (fun _ => rfl) _
        generalize w11.setCell ⟨gb, 0, none⟩ (.int .u8 (((ub.toNat : Int) + 1) % 256)) = w12 at *
        have HJ12 : Hid (Jn w12 S2 g [en]) := HJ11.out.kept KG (fun q hq e => by have h2 := hS8.out q hq; omega)
        have B512 : Hid (Blk w12 g5 31 #[.int .i64 (kd : Int), .string ky, .slice A7 k c7]) := B511.out.kept KG (by have := hg58.out; omega)
        have OW12 : Hid (OB w12 W6.heap.size (.slice A7 k c7) bd) := own_other OW11.out KG (fun q hq e => by have h1 := hA7.out q hq; omega)
        have F12 : Hid (Below w.heap.size w w12) := F11.out.trans (KG.to_below F11.out.size (fun q hq e => by omega))
        have zz12 := KG.size
        have CLN := Lib.hid (jclone_any S2 g [en] w12 HJ12.out (by simp))
        clear os KG HJ11 OB11 B511 OW11 F11 hc1 hc2 HU
        go_wp2_with fail
        refine CLN.out.mono ?_
        rintro e w13 ⟨Sc, gc, rfl, jc, hSc, b13⟩
        have HJ13 := Lib.hid (HJ12.out.below b13)
        have HJC13 := Lib.hid jc
        have HSC := Lib.hid hSc
        have B513 := Lib.hid (B512.out.below b13 B512.out.lt)
        have OW13 := Lib.hid (OB.below OW12.out b13 (Nat.le_refl _))
        have F13 := Lib.hid (F12.out.then_ b13)
        have zz13 := b13.size
        have AD2 := Lib.hid (add_yes Sc (fun _ => False) gc [en] ⟨1, ⟨#[]⟩, none, 0, 0, []⟩ w13 HJC13.out ⟨by decide, by decide, by decide, by decide, by decide, RIn.none_⟩ ⟨by decide, by decide, by decide, by decide⟩ (by simp) (fun _ h => h.elim))
        unfold Me.val at AD2
        clear CLN jc hSc b13 HJ12 B512 OW12 F12
        go_wp2_with fail
        refine AD2.out.mono ?_
        rintro e w14 ⟨v14, Sd, Bd, rfl, jd, -, -, -, -, k14⟩
        obtain ⟨en1, hen1⟩ : ∃ en1 : En, Me.en ⟨1, ⟨#[]⟩, none, 0, 0, []⟩ = en1 := ⟨_, rfl⟩
        rw [hen1] at jd
        have HJ14 : Hid (Jn w14 S2 g [en]) := HJ13.out.kept k14 (fun q hq e => by have h1 := HSC.out q e; have h2 := HJ13.out.lt q hq; have h3 := hS8.out q hq; omega)
        have HJC14 : Hid (Jn w14 Sd gc [en, en1]) := jd
        have B514 : Hid (Blk w14 g5 31 #[.int .i64 (kd : Int), .string ky, .slice A7 k c7]) := B513.out.kept k14 (fun e => by have h1 := HSC.out _ e; have := hg58.out; omega)
        have OW14 : Hid (OB w14 W6.heap.size (.slice A7 k c7) bd) := own_other OW13.out k14 (fun q hq e => by have h1 := HSC.out q e; have h2 := hA7.out q hq; omega)
        have F14 : Hid (Below w.heap.size w w14) := F13.out.trans (k14.to_below F13.out.size (fun q hq e => by have h1 := HSC.out q e; omega))
        have zz14 := k14.size
        have ALL := Lib.hid (all_any S2 g [en] w14 HJ14.out (by simp))
        clear AD2 jd k14 HJ13 HJC13 HSC B513 OW13 F13 hen1
        go_wp2_with fail
        refine ALL.out.mono ?_
        rintro e w15 ⟨ls, rfl, har, hls, b15⟩
        have hll : ls.length = 1 := by have := congrArg List.length hls; simpa using this
        obtain ⟨ml, rfl⟩ : ∃ ml, ls = [ml] := List.length_eq_one_iff.1 hll
        have hml : Hid (ml.en = en) := by have := hls; simp at this; exact this
        obtain ⟨gl, hgl⟩ : ∃ gl, w14.heap.size = gl := ⟨_, rfl⟩
        rw [hgl] at har ⊢
        obtain ⟨oml, okml, riml⟩ := har.own ml (List.mem_singleton.2 rfl)
        have LB : Hid (∃ C, Blk w15 gl 45 C ∧ C.toList = ml.cells) := by
          obtain ⟨C, h1, h2, h3⟩ := har.row
          refine ⟨C, h1, ?_⟩
          have h4 : meCells [ml] = ml.cells := by simp [meCells]
          rw [h4] at h3
          have h5 : C.toList.length = 3 := by rw [Array.length_toList, h2]; rfl
          rw [← h3, List.take_of_length_le (by rw [h5]; exact Nat.le_refl _)]
        have XL : Hid (Blk w15 gl 45 #[.int .i64 ml.kind, .string ml.key, .slice ml.A ml.n ml.c]) := by
          obtain ⟨C, h1, h2⟩ := LB.out
          have e : C = #[.int .i64 ml.kind, .string ml.key, .slice ml.A ml.n ml.c] := by
            rw [← Array.toList_inj, h2]
            rfl
          rw [← e]
          exact h1
        have OML := Lib.hid oml
        have OKML := Lib.hid okml
        have hS2g : Hid (∀ q, S2 q → q < gl) := fun q hq => by have h1 := HJ14.out.lt q hq; omega
        have hSdg : Hid (∀ q, Sd q → q < gl) := fun q hq => by have h1 := HJC14.out.lt q hq; omega
        have hg5g : Hid (g5 < gl) := by have h1 := B514.out.lt; rw [Hid]; omega
        have hA7g : Hid (∀ q, Value.ownBlock (.slice A7 k c7) = some q → q < gl) := fun q hq => by have h1 := OW14.out.block q hq; omega
        have hwgl : w.heap.size ≤ gl := by have h1 := F14.out.size; omega
        have HJ15 := Lib.hid (HJ14.out.below b15)
        have HJC15 := Lib.hid (HJC14.out.below b15)
        have B515 := Lib.hid (B514.out.below b15 B514.out.lt)
        have OW15 := Lib.hid (OB.below OW14.out b15 (Nat.le_refl _))
        have F15 := Lib.hid (F14.out.then_ b15)
        have zz15 := b15.size
        have hgl15 : gl < w15.heap.size := XL.out.lt
        have hmln : ml.n ≤ 65536 := riml.2.2.2
        have OKW : Hid (Me.Ok (fun z => z < gl) w15 ⟨(kd : Int), ky, A7, k, c7, bd⟩) := by
          refine ⟨by simp only; omega, by simp only; omega, by simp only; omega, hn7.1, hn7.2, ?_⟩
          have h1 := OW15.out.rin
          refine ⟨h1.1, fun h => ?_⟩
          obtain ⟨a, ha, hb, hc⟩ := h1.2 h
          refine ⟨a, ha, ?_, hc⟩
          exact hA7g.out a.block (by rw [ha]; rfl)
        have WEN : Hid (Me.en ⟨(kd : Int), ky, A7, k, c7, bd⟩ = en) := HEN.out.symm
        have SMT : Hid (sameE ml.en (Me.en ⟨(kd : Int), ky, A7, k, c7, bd⟩) = true) := sameE_iff.2 (by rw [hml.out, WEN.out])
        have K2 : Hid (∀ W, Below w15.heap.size w15 W → W.cell? ⟨gl, 0, none⟩ = some (.int .i64 ml.kind) ∧ W.cell? ⟨gl, 1, none⟩ = some (.string ml.key) ∧ W.cell? ⟨gl, 2, none⟩ = some (.slice ml.A ml.n ml.c) ∧ W.cell? ⟨g5, 0, none⟩ = some (.int .i64 (kd : Int)) ∧ W.cell? ⟨g5, 1, none⟩ = some (.string ky) ∧ W.cell? ⟨g5, 2, none⟩ = some (.slice A7 k c7)) := fun W hW => by
          have h1 := XL.out.below hW XL.out.lt
          have h2 := B515.out.below hW B515.out.lt
          exact ⟨h1.cell 0, h1.cell 1, h1.cell 2, h2.cell 0, h2.cell 1, h2.cell 2⟩
        have hk6 : k ≤ 60 := by have := HBD.out; omega
        clear ALL har hls hll b15 HJ14 HJC14 B514 OW14 F14 LB oml okml riml
        go_upto_region 21 with fail
        have rr : Below w15.heap.size w15 w15.drew := (Below.refl _ w15).drew
        go_region_held3 (fun W => W.cell? ⟨gl, 0, none⟩ = some (.int .i64 ml.kind) ∧ W.cell? ⟨gl, 1, none⟩ = some (.string ml.key) ∧ W.cell? ⟨gl, 2, none⟩ = some (.slice ml.A ml.n ml.c) ∧ W.cell? ⟨g5, 0, none⟩ = some (.int .i64 (kd : Int)) ∧ W.cell? ⟨g5, 1, none⟩ = some (.string ky) ∧ W.cell? ⟨g5, 2, none⟩ = some (.slice A7 k c7))
          (with_reducible exact K2.out _ rr)
          (first
          | (go_at_call 13; refine (esame_any _ _ ml ⟨(kd : Int), ky, A7, k, c7, bd⟩ _ (OKML.out.below rr) (OKW.out.below rr) (by omega) (by simp only; omega)).mono ?_; rintro e w8 ⟨rfl, b8⟩; have rr := rr.then_ b8; rw [SMT.out]))
        obtain ⟨w16, hw16⟩ : ∃ x, x = w8 := ⟨_, rfl⟩
        subst hw16
        have F16 := Lib.hid (F15.out.trans (rr.mono F15.out.size))
        have HJ16 := Lib.hid (HJ15.out.below rr)
        have HJC16 := Lib.hid (HJC15.out.below rr)
        have B516 := Lib.hid (B515.out.below rr B515.out.lt)
        have OKW16 := Lib.hid (OKW.out.below rr)
        have XL16 := Lib.hid (XL.out.below rr XL.out.lt)
        have OML16 := Lib.hid (OB.below OML.out rr (Nat.le_refl _))
        have zz16 := rr.size
        clear rr K2 F15 HJ15 HJC15 B515 OW15 OKW XL OML SMT OKML
        obtain ⟨n2, hn2⟩ : ∃ n2, ml.n = n2 := ⟨_, rfl⟩
        have hMA : Hid (∀ q, Value.ownBlock (.slice ml.A ml.n ml.c) = some q → gl < q) := fun q hq => by have h1 := OML16.out.block q hq; omega
        rw [hn2] at XL16 OML16 hMA
        have hn2m : n2 ≤ 65536 := by rw [← hn2]; exact hmln
        have HMN := Lib.hid hn2
        have HBM : Hid (ml.body.length = n2) := by
          obtain ⟨A', c', e, -⟩ := OML16.out.form
          injection e with e1 e2 e3
          exact e2.symm
        obtain ⟨mk, hmk⟩ : ∃ mk, ml.kind = mk := ⟨_, rfl⟩
        obtain ⟨my, hmy⟩ : ∃ my, ml.key = my := ⟨_, rfl⟩
        obtain ⟨mb, hmb⟩ : ∃ mb, ml.body = mb := ⟨_, rfl⟩
        obtain ⟨mA, hmA⟩ : ∃ mA, ml.A = mA := ⟨_, rfl⟩
        obtain ⟨mc, hmc⟩ : ∃ mc, ml.c = mc := ⟨_, rfl⟩
        rw [hmb] at HBM
        rw [hmk, hmy, hmA, hmc] at XL16
        rw [hmA, hmc] at hMA
        rw [hmA, hmb, hmc] at OML16
        clear hn2 hmk hmy hmb hmA hmc HMN hmln
        go_wp2_with fail
        go_loopg [12] n2 (fun gk i wr => ∃ (j : Nat) (ys : List UInt8), gk = n2 - j ∧ j ≤ n2 ∧ i = .int .i64 j ∧ Hid (OB wr (gl + 1) (.slice mA n2 mc) ys) ∧ Hid (ys.length = n2) ∧ Hid (Kept (fun z => Value.ownBlock (.slice mA n2 mc) = some z) w16 wr))
        case atStart => exact ⟨0, mb, rfl, Nat.zero_le _, rfl, OML16, HBM, Kept.refl _ _⟩
        case round =>
          obtain ⟨j, ys, hgk, hj', rfl, oy, hyl, kr⟩ := hrel
          have HGK := Lib.hid hgk
          clear hgk
          have XR : Blk wr gl 45 #[.int .i64 mk, .string my, .slice mA n2 mc] := XL16.out.kept kr.out (fun h => by have := hMA.out _ h; omega)
          have HXR := Lib.hid XR
          have s2 : wr.cell? ⟨gl, 2, none⟩ = some (.slice mA n2 mc) := XR.cell 2
          clear XR
          by_cases hlt : j < n2
          · obtain ⟨a5, rfl, ha51, ha52, -⟩ := oy.out.addr (by omega)
            have hky2 : j < ys.length := by have := hyl.out; omega
            obtain ⟨hc1, hc2⟩ := oy.out.cell hky2
            obtain ⟨u, hu⟩ := u8_plus (ys[j]'hky2)
            have os := oy.out.store j hu
            generalize ys[j]'hky2 = ub at *
            have OS := Lib.hid os.1
            have HYS : Hid ((ys.set j u).length = n2) := by rw [Hid, List.length_set]; exact hyl.out
            have KS : Hid (Kept (fun z => Value.ownBlock (.slice (some ⟨a5, 0, none⟩) n2 mc) = some z) w16 (wr.setCell ⟨a5, j, none⟩ (.int .u8 (((ub.toNat : Int) + 1) % 256)))) := kr.out.then_ (Kept.of_grown (S := fun z => Value.ownBlock (.slice (some ⟨a5, 0, none⟩) n2 mc) = some z) os.2 (fun q e => e)) (fun _ _ h => h)
            have g1 : (0 : Int) ≤ (j : Int) := by omega
            have g2 : (j : Int) < (n2 : Int) := by omega
            clear os hu
            go_wp2_with fail
            go_roundg (n2 - (j + 1))
            case measure => have := HGK.out; omega
            case rel => exact ⟨j + 1, _, rfl, by omega, by go_num, OS, HYS, KS⟩
          · obtain rfl : j = n2 := by omega
            obtain ⟨w17, rfl⟩ : ∃ x, x = wr := ⟨_, rfl⟩
            have HJ17 : Hid (Jn w17 S2 g [en]) := HJ16.out.kept kr.out (fun q hq e => by have h1 := hMA.out _ e; have h2 := hS2g.out q hq; omega)
            have HJC17 : Hid (Jn w17 Sd gc [en, en1]) := HJC16.out.kept kr.out (fun q hq e => by have h1 := hMA.out _ e; have h2 := hSdg.out q hq; omega)
            have B517 : Hid (Blk w17 g5 31 #[.int .i64 (kd : Int), .string ky, .slice A7 k c7]) := B516.out.kept kr.out (fun e => by have h1 := hMA.out _ e; have h2 := hg5g.out; omega)
            have OKW17 : Hid (Me.Ok (fun z => z < gl) w17 ⟨(kd : Int), ky, A7, k, c7, bd⟩) := OKW16.out.kept kr.out (fun q hq e => by have h1 := hMA.out _ e; omega)
            have F17 : Hid (Below w.heap.size w w17) := F16.out.trans (kr.out.to_below F16.out.size (fun q hq e => by have h1 := hMA.out _ e; omega))
            have LST := Lib.hid (jlast_any S2 g [en] (kd : Int) ky w17 HJ17.out ⟨by omega, by omega, by omega⟩)
            have zz17 := kr.out.size
            have s0 : w17.cell? ⟨g5, 0, none⟩ = some (.int .i64 (kd : Int)) := B517.out.cell 0
            have s1 : w17.cell? ⟨g5, 1, none⟩ = some (.string ky) := B517.out.cell 1
            clear HJ16 HJC16 B516 OKW16 F16 oy kr HXR HGK
            go_upto_region 27 with fail
            clear s2
            go_wp2_with fail
            refine LST.out.mono ?_
            rintro e w18 ⟨b18, (⟨m, rfl, hle, okx, rix⟩ | ⟨rfl, hle⟩)⟩
            rotate_left
            · exfalso
              have h1 : lastE [en] ((kd : Int), ky.data.toList) = some en := by rw [HEN.out]; simp [lastE, En.pl]
              rw [h1] at hle
              simp at hle
            have hme : Hid (m.en = en) := by
              have h1 : lastE [en] ((kd : Int), ky.data.toList) = some en := by rw [HEN.out]; simp [lastE, En.pl]
              rw [h1] at hle
              injection hle with hle
              exact hle.symm
            unfold Me.val
            have HJ18 := Lib.hid (HJ17.out.below b18)
            have HJC18 := Lib.hid (HJC17.out.below b18)
            have B518 := Lib.hid (B517.out.below b18 B517.out.lt)
            have OKW18 := Lib.hid (OKW17.out.below b18)
            have OKX18 := Lib.hid okx
            have F18 := Lib.hid (F17.out.then_ b18)
            have hmn : m.n ≤ 65536 := rix.2.2.2
            clear HJ17 HJC17 B517 OKW17 F17 LST s0 s1 hle okx rix b18
            have XM0 := Blk.new w18 45 #[.int .i64 m.kind, .string m.key, .slice m.A m.n m.c]
            obtain ⟨gx, hgx⟩ : ∃ gx, w18.heap.size = gx := ⟨_, rfl⟩
            rw [hgx] at XM0
            go_upto_region 28 with fail
            have b19 : Below w18.heap.size w18 (w18.alloc (.cells #[.int .i64 m.kind, .string m.key, .slice m.A m.n m.c] 45)) := (Below.refl _ w18).al _
            generalize w18.alloc (.cells #[.int .i64 m.kind, .string m.key, .slice m.A m.n m.c] 45) = w19 at *
            have HJ19 := Lib.hid (HJ18.out.below b19)
            have HJC19 := Lib.hid (HJC18.out.below b19)
            have B519 := Lib.hid (B518.out.below b19 B518.out.lt)
            have OKW19 := Lib.hid (OKW18.out.below b19)
            have OKX19 := Lib.hid (OKX18.out.below b19)
            have XM := Lib.hid XM0
            have F19 := Lib.hid (F18.out.then_ b19)
            have SMX : Hid (sameE m.en (Me.en ⟨(kd : Int), ky, A7, k, c7, bd⟩) = true) := sameE_iff.2 (by rw [hme.out, WEN.out])
            have K3 : Hid (∀ W, Below w19.heap.size w19 W → W.cell? ⟨gx, 0, none⟩ = some (.int .i64 m.kind) ∧ W.cell? ⟨gx, 1, none⟩ = some (.string m.key) ∧ W.cell? ⟨gx, 2, none⟩ = some (.slice m.A m.n m.c) ∧ W.cell? ⟨g5, 0, none⟩ = some (.int .i64 (kd : Int)) ∧ W.cell? ⟨g5, 1, none⟩ = some (.string ky) ∧ W.cell? ⟨g5, 2, none⟩ = some (.slice A7 k c7)) := fun W hW => by
              have h1 := XM.out.below hW XM.out.lt
              have h2 := B519.out.below hW B519.out.lt
              exact ⟨h1.cell 0, h1.cell 1, h1.cell 2, h2.cell 0, h2.cell 1, h2.cell 2⟩
            have JB : Hid (∀ W, Below w19.heap.size w19 W → Calls Try.prog 17 #[.pointer (some ⟨g, 0, none⟩)] W (Got W.heap.size W (entryB D8 en))) := fun W hW => by
              have h1 := jbytes_any S2 g [en] W (HJ19.out.below hW) (by simp)
              rwa [show allB D8 [en] = entryB D8 en from by simp [allB]] at h1
            have RB' : Hid (∀ W, Below w19.heap.size w19 W → Calls Try.prog 27 #[.agg #[.int .i64 (kd : Int), .string ky, .slice A7 k c7]] W (Got W.heap.size W (entryB D8 en))) := fun W hW => by
              have h1 := refEBytes_any _ ⟨(kd : Int), ky, A7, k, c7, bd⟩ W (OKW19.out.below hW) (by simp only; omega) (by simp only; omega) (by simp only; omega)
              rw [WEN.out] at h1
              exact h1
            have JL : Hid (∀ W, Below w19.heap.size w19 W → Calls Try.prog 24 #[.pointer (some ⟨gc, 0, none⟩)] W fun e w' => e = .returned (.int .i64 2) ∧ W = w') := fun W hW => jlen_any Sd gc [en, en1] W (HJC19.out.below hW)
            have JS : Hid (∀ W, Below w19.heap.size w19 W → Calls Try.prog 15 #[.pointer (some ⟨gc, 0, none⟩), .pointer (some ⟨g, 0, none⟩)] W (Tells W false)) := fun W hW => by
              have h1 := jsame_any Sd S2 gc g [en, en1] [en] W (HJC19.out.below hW) (HJ19.out.below hW) (by simp)
              rwa [show decide ([en, en1] = [en]) = false from by simp] at h1
            have HNB2 := Lib.hid HNB.out
            have rr : Below w19.heap.size w19 w19.drew := (Below.refl _ w19).drew
            clear XM0 b19 HJ18 HJC18 B518 OKW18 OKX18 F18 hme
            go_region_held3 (fun W => W.cell? ⟨gx, 0, none⟩ = some (.int .i64 m.kind) ∧ W.cell? ⟨gx, 1, none⟩ = some (.string m.key) ∧ W.cell? ⟨gx, 2, none⟩ = some (.slice m.A m.n m.c) ∧ W.cell? ⟨g5, 0, none⟩ = some (.int .i64 (kd : Int)) ∧ W.cell? ⟨g5, 1, none⟩ = some (.string ky) ∧ W.cell? ⟨g5, 2, none⟩ = some (.slice A7 k c7))
              (with_reducible exact K3.out _ rr)
              (first
              | (go_at_call 14; refine (known_any _).mono ?_; rintro e w8 ⟨rfl, b8⟩; have rr := rr.then_ b8)
              | (go_at_call 13; refine (esame_any _ _ m ⟨(kd : Int), ky, A7, k, c7, bd⟩ _ (OKX19.out.below rr) (OKW19.out.below rr) (by omega) (by simp only; omega)).mono ?_; rintro e w8 ⟨rfl, b8⟩; have rr := rr.then_ b8; rw [SMX.out])
              | (go_at_call 17; (with_reducible refine (JB.out _ rr).mono ?_); rintro e w8 ⟨v8, rfl, o8, b8⟩; have rr := rr.then_ b8; obtain ⟨A8, n8, c8, rfl, hc8, hm8, r8⟩ := o8.got)
              | (go_at_call 27; (with_reducible refine (RB'.out _ rr).mono ?_); rintro e w9 ⟨v9, rfl, o9, b9⟩; have rr := rr.then_ b9; obtain ⟨A9, n9, c9, rfl, hc9, hm9, r9⟩ := o9.got; have r8 := r8.below b9)
              | (go_at_call 16; refine (same_true A8 A9 n8 c8 n9 c9 _ _ _ r8 r9 (by have h1 := r8.len; have h2 := HNB2.out; omega) rfl).mono ?_; rintro e w8 ⟨rfl, b8⟩; have rr := rr.then_ b8)
              | (go_at_call 24; (with_reducible refine (JL.out _ rr).mono ?_); rintro e w8 ⟨rfl, rfl⟩)
              | (go_at_call 15; (with_reducible refine (JS.out _ rr).mono ?_); rintro e w8 ⟨rfl, b8⟩; have rr := rr.then_ b8))
            have FR := Lib.hid (F19.out.trans (rr.mono F19.out.size))
            clear K3 JB RB' JL JS rr
            go_wp2_with fail
            go_ret
            exact ⟨rfl, FR.out⟩
end Go.Proofs.Ytidppcaohkfnfaa
