/-
  package topup: Back, walked.
-/
import Derived.Test.YtdbffjipoiphpaaT8
namespace Go.Proofs.Ytdbffjipoiphpaa
open Go.RowKit

/-- What Back answers. -/
def backL (b : Bk) (h seat : Int) : List Int := [askedE b h seat, un (decide ((b.wt.getD noW).till < h)) 20, un (decide (0 < gives (b.wt.getD noW) seat.toNat)) 21]
def backE (b : Bk) (h seat : Int) : Int := firstOf (backL b h seat)
/-- A bank behind Back. -/
def backB (b : Bk) (i : Nat) : Bk := match b.wt with
  | none => b
  | some x => if sumW (layW x i false) = 0 then { b with wt := none } else { b with wt := some (layW x i false) }
theorem runB1 (args : Array Value) (W : World) : (callFunc 52 args).run Try.prog W = .ok (.enter 52 args) W := run_call_plain Try.func52 (by kernel_rfl) (by kernel_rfl) args W
theorem runB2 (args : Array Value) (W : World) : (callFunc 53 args).run Try.prog W = .ok (.enter 53 args) W := run_call_plain Try.func53 (by kernel_rfl) (by kernel_rfl) args W
theorem runB3 (args : Array Value) (W : World) : (callFunc 54 args).run Try.prog W = .ok (.enter 54 args) W := run_call_plain Try.func54 (by kernel_rfl) (by kernel_rfl) args W

/-- The functions that Back asks, as values. -/
abbrev backF (g4 g5 g6 : Nat) : List (FuncId × Array Value) := [(52, #[.pointer (some ⟨g4, 0, none⟩), .pointer (some ⟨g5, 0, none⟩), .pointer (some ⟨g6, 0, none⟩)]), (53, #[.pointer (some ⟨g4, 0, none⟩), .pointer (some ⟨g5, 0, none⟩)]),
  (54, #[.pointer (some ⟨g4, 0, none⟩), .pointer (some ⟨g6, 0, none⟩)])]

/-- Back's asking. -/
theorem backAsk (S : Nat → Prop) (g gs cs : Nat) (wp : Option Addr) (b : Bk) (h seat : Int) (g4 g5 g6 g8 : Nat) (w : World) (hB : BAt w S g gs cs wp b) (p4 : Blk w g4 24 #[.pointer (some ⟨g, 0, none⟩)]) (p5 : Blk w g5 3 #[.int .i64 h]) (p6 : Blk w g6 3 #[.int .i64 seat])
    (p8 : Blk w g8 81 ((backF g4 g5 g6).map fun f => Value.func (.func f.1) #[] f.2).toArray) :
    Calls Try.prog 35 #[.slice (some ⟨g8, 0, none⟩) 3 3] w fun e w' => e = .returned (.int .i64 (backE b h seat)) ∧ Below w.heap.size w w' := by
  refine first_any (backF g4 g5 g6) (backL b h seat) g8 3 3 81 (Below w.heap.size w) w rfl rfl (by omega) (Below.refl _ _) (fun W hW => p8.below hW p8.lt) ?_ ?_
  · intro i hi W
    match i, hi with
    | 0, _ => exact runB1 _ W
    | 1, _ => exact runB2 _ W
    | 2, _ => exact runB3 _ W
  · intro i hi h2 hz W hW
    have hBW := hB.below hW
    have q4 : W.cell? ⟨g4, 0, none⟩ = some (.pointer (some ⟨g, 0, none⟩)) := (p4.below hW p4.lt).cell 0
    have q5 : W.cell? ⟨g5, 0, none⟩ = some (.int .i64 h) := (p5.below hW p5.lt).cell 0
    have q6 : W.cell? ⟨g6, 0, none⟩ = some (.int .i64 seat) := (p6.below hW p6.lt).cell 0
    have q2 : W.cell? ⟨g, 2, none⟩ = some (.pointer wp) := hBW.blk.cell 2
    have hw : ∀ k, k < i → ∃ x gw ga ca, b.wt = some x ∧ wp = some ⟨gw, 0, none⟩ ∧ WAt W S gw ga ca x ∧ ∃ j : Nat, seat = (j : Int) ∧ j < x.adds.length := by
      intro k hk
      have h0 : askedE b h seat = 0 := hz 0 (by simp [backL]) (by omega)
      obtain ⟨e1, e2, e3, _⟩ := askedE_zero h0
      obtain ⟨x, hx⟩ := Option.isSome_iff_exists.1 e1
      obtain ⟨gw, ga, ca, h3, h4, _⟩ := hBW.some_ x hx
      exact ⟨x, gw, ga, ca, hx, h3, h4, seat.toNat, by omega, by rw [(hB.ok.adds x hx).1]; omega⟩
    match i, hi with
    | 0, _ => exact (back1_any S g gs cs g4 g5 g6 b h W wp seat hBW q4 q5 q6).mono fun e w' ⟨he, hb⟩ => ⟨he, hW.then_ hb⟩
    | 1, _ =>
      obtain ⟨x, gw, ga, ca, hx, rfl, hxw, j, rfl, hj⟩ := hw 0 (by omega)
      have e : (backL b h (j : Int))[1] = un (decide (x.till < h)) 20 := by simp [backL, hx]
      rw [e]
      exact (back2_any S g gw ga ca g4 g5 x h W hxw q4 q5 q2).mono fun e w' ⟨he, hb⟩ => ⟨he, hW.then_ hb⟩
    | 2, _ =>
      obtain ⟨x, gw, ga, ca, hx, rfl, hxw, j, rfl, hj⟩ := hw 0 (by omega)
      have e : (backL b h (j : Int))[2] = un (decide (0 < gives x j)) 21 := by simp [backL, hx]
      rw [e]
      exact (back3_any S g gw ga ca g4 g6 x j W hxw hj q4 q6 q2).mono fun e w' ⟨he, hb⟩ => ⟨he, hW.then_ hb⟩

set_option maxHeartbeats 400000 in
set_option maxRecDepth 100000 in
theorem back_no (S : Nat → Prop) (g gs cs : Nat) (wp : Option Addr) (b : Bk) (h seat : Int) (w : World) (hB : BAt w S g gs cs wp b) (hE : backE b h seat ≠ 0) :
    Calls Try.prog 17 #[.pointer (some ⟨g, 0, none⟩), .int .i64 h, .int .i64 seat] w fun e w' => e = .returned (.tuple #[.int .i64 0, .int .i64 (backE b h seat)]) ∧ Below w.heap.size w w' := by
  have ht : (backE b h seat != 0) = true := by rw [bne_iff_ne]; exact hE
  clear hE
  go_enter Try.func17, Try.ntmps17
  go_wp2_with fail
  obtain ⟨p0, p1, p2, p4, f0⟩ := blks4 (Below.refl ((((w.alloc (.cells #[.pointer (some ⟨g, 0, none⟩)] 24)).alloc (.cells #[.int .i64 h] 3)).alloc (.cells #[.int .i64 seat] 3)).alloc (.cells ((backF w.heap.size (w.heap.size + 1) (w.heap.size + 1 + 1)).map fun f => Value.func (.func f.1) #[] f.2).toArray 81)).heap.size _)
  refine (backAsk S g gs cs wp b h seat _ _ _ _ _ (hB.below f0) p0 p1 p2 p4).mono ?_
  rintro e w1 ⟨rfl, b1⟩
  have f1 := f0.then_ b1
  clear f0 b1 p0 p1 p2 p4
  go_wp2_with fail
  go_ret2
  exact ⟨rfl, f1⟩

set_option maxHeartbeats 1000000 in
set_option maxRecDepth 100000 in
theorem back_yes (S : Nat → Prop) (g gs cs : Nat) (wp : Option Addr) (b : Bk) (h seat : Int) (w : World) (hB : BAt w S g gs cs wp b) (hE : backE b h seat = 0) :
    Calls Try.prog 17 #[.pointer (some ⟨g, 0, none⟩), .int .i64 h, .int .i64 seat] w fun e w' => e = .returned (.tuple #[.int .i64 (gives (b.wt.getD noW) seat.toNat), .int .i64 0]) ∧ ∃ wp', BAt w' S g gs cs wp' (backB b seat.toNat) ∧ Kept S w w' := by
  have h0 : askedE b h seat = 0 := firstOf_zero hE _ (by simp [backL])
  obtain ⟨e1, e2, e3, _⟩ := askedE_zero h0
  obtain ⟨x, hx⟩ := Option.isSome_iff_exists.1 e1
  obtain ⟨j, rfl⟩ : ∃ j : Nat, seat = (j : Int) := ⟨seat.toNat, by omega⟩
  obtain ⟨gw, ga, ca, rfl, hxw, n1, n2, n3, n4⟩ := hB.some_ x hx
  have hal := (hB.ok.adds x hx).1
  have hj : j < x.adds.length := by omega
  have hx8 := hxw.few
  have HX := Lib.hid hx
  have HG : Hid (gives (b.wt.getD noW) (j : Int).toNat = gives x j) := by rw [Hid, hx, Int.toNat_natCast]; rfl
  have HE := Lib.hid hE
  clear hx hE h0 e1
  go_enter Try.func17, Try.ntmps17
  go_wp2_with fail
  obtain ⟨p0, p1, p2, p4, f0⟩ := blks4 (Below.refl ((((w.alloc (.cells #[.pointer (some ⟨g, 0, none⟩)] 24)).alloc (.cells #[.int .i64 h] 3)).alloc (.cells #[.int .i64 (j : Int)] 3)).alloc (.cells ((backF w.heap.size (w.heap.size + 1) (w.heap.size + 1 + 1)).map fun f => Value.func (.func f.1) #[] f.2).toArray 81)).heap.size _)
  refine (backAsk S g gs cs _ b h j _ _ _ _ _ (hB.below f0) p0 p1 p2 p4).mono ?_
  rintro e w0 ⟨rfl, b1⟩
  rw [HE.out]
  have f1 := f0.then_ b1
  have hB1 := hB.below f1
  have p0' := p0.below b1 p0.lt
  have p2' := p2.below b1 p2.lt
  have hxw1 := hxw.kept (Kept.of_below (S := fun _ => False) f1) (fun _ _ h => h)
  clear f0 b1 p0 p1 p2 p4
  have hgl := hB.lt g hB.inG
  have hsl := hB.lt gs hB.inS
  have hwl := hB.lt gw hxw.inW
  have c0 : w0.cell? ⟨w.heap.size, 0, none⟩ = some (.pointer (some ⟨g, 0, none⟩)) := p0'.cell 0
  have c2 : w0.cell? ⟨w.heap.size + 1 + 1, 0, none⟩ = some (.int .i64 (j : Int)) := p2'.cell 0
  have cg : w0.cell? ⟨g, 2, none⟩ = some (.pointer (some ⟨gw, 0, none⟩)) := hB1.blk.cell 2
  have hj0 : (0 : Int) ≤ (j : Int) := by omega
  have hj8 : (j : Int) < 8 := by omega
  have cl := hxw1.laid_ (show j < 8 by omega)
  have fl := hxw1.blk.frozen (11 + j)
  have hxd : WAt w0.drew S gw ga ca x := hxw1.kept ((Kept.refl (fun _ => False) w0).drew) (fun _ _ h => h)
  go_wp2_with fail
  go_region_held3 (fun w' => w'.cell? ⟨w.heap.size, 0, none⟩ = some (.pointer (some ⟨g, 0, none⟩)) ∧ w'.cell? ⟨w.heap.size + 1 + 1, 0, none⟩ = some (.int .i64 (j : Int)) ∧ w'.cell? ⟨g, 2, none⟩ = some (.pointer (some ⟨gw, 0, none⟩)))
    (exact ⟨c0, c2, cg⟩)
    (first | (go_at_call 32; refine (given_any S gw ga ca x j _ hxd hj).mono ?_; rintro e w1 ⟨rfl, rfl⟩))
  have hB1 := hB1.drew
  have p0' := p0'.drew
  have p2' := p2'.drew
  have hxw1 := hxd
  have f1 := f1.drew
  have c0 : w0.drew.cell? ⟨w.heap.size, 0, none⟩ = some (.pointer (some ⟨g, 0, none⟩)) := p0'.cell 0
  have c2 : w0.drew.cell? ⟨w.heap.size + 1 + 1, 0, none⟩ = some (.int .i64 (j : Int)) := p2'.cell 0
  have cg : w0.drew.cell? ⟨g, 2, none⟩ = some (.pointer (some ⟨gw, 0, none⟩)) := hB1.blk.cell 2
  have cl := hxw1.laid_ (show j < 8 by omega)
  have fl := hxw1.blk.frozen (11 + j)
  generalize w0.drew = w1 at *
  have hk1 : Kept (fun k => k = gw) w1 (w1.setCell ⟨gw, 11 + j, none⟩ (.bool false)) := (Kept.refl (fun k => k = gw) w1).setCell (fun _ => rfl) _
  have z1 := f1.size
  have d0 := (hk1.cell (p := ⟨w.heap.size, 0, none⟩) p0'.lt (by show ¬ w.heap.size = gw; omega)).trans c0
  have d2 := (hk1.cell (p := ⟨w.heap.size + 1 + 1, 0, none⟩) p2'.lt (by show ¬ w.heap.size + 1 + 1 = gw; omega)).trans c2
  have dg := (hk1.cell (p := ⟨g, 2, none⟩) hB1.blk.lt (fun h => n1 h)).trans cg
  go_wp2_with fail
  go_region_held3 (fun w' => w'.cell? ⟨w.heap.size, 0, none⟩ = some (.pointer (some ⟨g, 0, none⟩)) ∧ w'.cell? ⟨w.heap.size + 1 + 1, 0, none⟩ = some (.int .i64 (j : Int)) ∧ w'.cell? ⟨g, 2, none⟩ = some (.pointer (some ⟨gw, 0, none⟩)))
    (first | exact ⟨c0, c2, cg⟩ | exact ⟨d0, d2, dg⟩) (fail)
  have x2 : WAt (w1.setCell ⟨gw, 11 + j, none⟩ (.bool false)).drew S gw ga ca (layW x j false) := (hxw1.lay (show j < 8 by omega) false).kept ((Kept.refl (fun _ => False) _).drew) (fun _ _ h => h)
  have k2 : Kept S w (w1.setCell ⟨gw, 11 + j, none⟩ (.bool false)).drew := ((Kept.of_below (S := S) f1).trans (hk1.mono (fun k _ e => e ▸ hxw.inW))).drew
  have g2 : Blk (w1.setCell ⟨gw, 11 + j, none⟩ (.bool false)).drew g 72 #[.slice (some ⟨gs, 0, none⟩) b.stakes.length cs, .int .i64 b.last, .pointer (some ⟨gw, 0, none⟩)] := (hk1.drew.block g hB1.blk.lt (fun h => n1 h)).trans hB1.blk
  have s2 : IOwn (w1.setCell ⟨gw, 11 + j, none⟩ (.bool false)).drew gs cs b.stakes := hB1.stakes.kept hk1.drew (fun h => n3 h)
  have b2 : Blk (w1.setCell ⟨gw, 11 + j, none⟩ (.bool false)).drew w.heap.size 24 #[.pointer (some ⟨g, 0, none⟩)] := (hk1.drew.block w.heap.size p0'.lt (by omega)).trans p0'
  clear d0 d2 dg c0 c2 cg cl fl hk1 p0' p2' hxw1 hB1 f1 z1
  generalize (w1.setCell ⟨gw, 11 + j, none⟩ (.bool false)).drew = W2 at *
  have c0 : W2.cell? ⟨w.heap.size, 0, none⟩ = some (.pointer (some ⟨g, 0, none⟩)) := b2.cell 0
  have cg : W2.cell? ⟨g, 2, none⟩ = some (.pointer (some ⟨gw, 0, none⟩)) := g2.cell 2
  go_wp2_with fail
  refine (sum_any S gw ga ca (layW x j false) _ x2).mono ?_
  rintro e w' ⟨rfl, rfl⟩
  by_cases hz : sumW (layW x j false) = 0
  · have HP : Hid (backB b ((j : Int)).toNat = { b with wt := none }) := by rw [Hid, Int.toNat_natCast, backB, HX.out]; simp [hz]
    rw [hz]
    clear hz
    have fg := g2.frozen 2
    go_wp2_with fail
    go_ret2
    have kk : Kept (fun q => q = g) W2 (W2.setCell ⟨g, 2, none⟩ (.pointer none)) := (Kept.refl (fun q => q = g) W2).setCell (fun _ => rfl) _
    have kz := k2.trans (kk.mono (fun q _ e => e ▸ hB.inG))
    have gz := g2.set_ 2 (.pointer none)
    refine ⟨by rw [HG.out]; rfl, none, ?_, kz⟩
    rw [HP.out]
    exact ⟨⟨hB.ok.two, hB.ok.few, hB.ok.right, hB.ok.pot, fun y hy => by cases hy⟩, hB.inG, hB.inS, hB.ne, fun q hq => Nat.lt_of_lt_of_le (hB.lt q hq) kz.size, gz, s2.kept kk (fun e => hB.ne e.symm), fun _ => rfl, fun y hy => by cases hy⟩
  · have HP : Hid (backB b ((j : Int)).toNat = { b with wt := some (layW x j false) }) := by rw [Hid, Int.toNat_natCast, backB, HX.out]; simp [hz]
    have ht : (sumW (layW x j false) == 0) = false := by rw [beq_eq_false_iff_ne]; exact hz
    clear hz
    generalize sumW (layW x j false) = sm at *
    go_wp2_with fail
    go_ret2
    refine ⟨by rw [HG.out]; rfl, some ⟨gw, 0, none⟩, ?_, k2⟩
    rw [HP.out]
    exact ⟨⟨hB.ok.two, hB.ok.few, hB.ok.right, hB.ok.pot, fun y hy => by injection hy with hy; subst hy; exact hB.ok.adds x HX.out⟩, hB.inG, hB.inS, hB.ne, fun k hk => Nat.lt_of_lt_of_le (hB.lt k hk) k2.size, g2, s2, (fun h => by cases h), fun y hy => by injection hy with hy; subst hy; exact ⟨gw, ga, ca, rfl, x2, n1, n2, n3, n4⟩⟩
end Go.Proofs.Ytdbffjipoiphpaa
