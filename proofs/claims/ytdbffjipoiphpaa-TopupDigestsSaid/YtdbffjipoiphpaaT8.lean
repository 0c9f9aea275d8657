/-
  package topup: Put, walked.
-/
import Derived.Test.YtdbffjipoiphpaaT7
namespace Go.Proofs.Ytdbffjipoiphpaa
open Go.RowKit

/-- The functions that Put asks, as values. -/
abbrev putF (g4 g5 g6 g7 : Nat) : List (FuncId × Array Value) := [(46, #[.pointer (some ⟨g4, 0, none⟩), .pointer (some ⟨g5, 0, none⟩), .pointer (some ⟨g6, 0, none⟩)]), (48, #[.pointer (some ⟨g4, 0, none⟩), .pointer (some ⟨g5, 0, none⟩)]),
  (49, #[.pointer (some ⟨g4, 0, none⟩), .pointer (some ⟨g6, 0, none⟩)]), (50, #[.pointer (some ⟨g7, 0, none⟩), .pointer (some ⟨g4, 0, none⟩), .pointer (some ⟨g6, 0, none⟩)])]

/-- Put's asking. -/
theorem putAsk (S : Nat → Prop) (g gs cs : Nat) (wp : Option Addr) (b : Bk) (h seat amt : Int) (g4 g5 g6 g7 g8 : Nat) (w : World) (hB : BAt w S g gs cs wp b) (p4 : Blk w g4 24 #[.pointer (some ⟨g, 0, none⟩)]) (p5 : Blk w g5 3 #[.int .i64 h]) (p6 : Blk w g6 3 #[.int .i64 seat]) (p7 : Blk w g7 3 #[.int .i64 amt])
    (p8 : Blk w g8 81 ((putF g4 g5 g6 g7).map fun f => Value.func (.func f.1) #[] f.2).toArray) :
    Calls Try.prog 35 #[.slice (some ⟨g8, 0, none⟩) 4 4] w fun e w' => e = .returned (.int .i64 (putE b h seat amt)) ∧ Below w.heap.size w w' := by
  refine first_any (putF g4 g5 g6 g7) (putL b h seat amt) g8 4 4 81 (Below w.heap.size w) w rfl rfl (by omega) (Below.refl _ _) (fun W hW => p8.below hW p8.lt) ?_ ?_
  · intro i hi W
    match i, hi with
    | 0, _ => exact runP1 _ W
    | 1, _ => exact runP2 _ W
    | 2, _ => exact runP3 _ W
    | 3, _ => exact runP4 _ W
  · intro i hi h2 hz W hW
    have hBW := hB.below hW
    have q4 : W.cell? ⟨g4, 0, none⟩ = some (.pointer (some ⟨g, 0, none⟩)) := (p4.below hW p4.lt).cell 0
    have q5 : W.cell? ⟨g5, 0, none⟩ = some (.int .i64 h) := (p5.below hW p5.lt).cell 0
    have q6 : W.cell? ⟨g6, 0, none⟩ = some (.int .i64 seat) := (p6.below hW p6.lt).cell 0
    have q7 : W.cell? ⟨g7, 0, none⟩ = some (.int .i64 amt) := (p7.below hW p7.lt).cell 0
    have q2 : W.cell? ⟨g, 2, none⟩ = some (.pointer wp) := hBW.blk.cell 2
    have hw : ∀ k, k < i → ∃ x gw ga ca, b.wt = some x ∧ wp = some ⟨gw, 0, none⟩ ∧ WAt W S gw ga ca x ∧ ∃ j : Nat, seat = (j : Int) ∧ j < x.adds.length := by
      intro k hk
      have h0 : askedE b h seat = 0 := hz 0 (by simp [putL]) (by omega)
      obtain ⟨e1, e2, e3, _⟩ := askedE_zero h0
      obtain ⟨x, hx⟩ := Option.isSome_iff_exists.1 e1
      obtain ⟨gw, ga, ca, h3, h4, _⟩ := hBW.some_ x hx
      exact ⟨x, gw, ga, ca, hx, h3, h4, seat.toNat, by omega, by rw [(hB.ok.adds x hx).1]; omega⟩
    match i, hi with
    | 0, _ => exact (put1_any S g gs cs g4 g5 g6 b h W wp seat hBW q4 q5 q6).mono fun e w' ⟨he, hb⟩ => ⟨he, hW.then_ hb⟩
    | 1, _ =>
      obtain ⟨x, gw, ga, ca, hx, rfl, hxw, j, rfl, hj⟩ := hw 0 (by omega)
      have e : (putL b h (j : Int) amt)[1] = un (!decide (x.till < h)) 19 := by simp [putL, hx]
      rw [e]
      exact (put2_any S g gw ga ca g4 g5 x h W hxw q4 q5 q2).mono fun e w' ⟨he, hb⟩ => ⟨he, hW.then_ hb⟩
    | 2, _ =>
      obtain ⟨x, gw, ga, ca, hx, rfl, hxw, j, rfl, hj⟩ := hw 0 (by omega)
      have e : (putL b h (j : Int) amt)[2] = un (!(x.laid.getD j false)) 7 := by simp [putL, hx]
      rw [e]
      exact (put3_any S g gw ga ca g4 g6 x j W hxw hj q4 q6 q2).mono fun e w' ⟨he, hb⟩ => ⟨he, hW.then_ hb⟩
    | 3, _ =>
      obtain ⟨x, gw, ga, ca, hx, rfl, hxw, j, rfl, hj⟩ := hw 0 (by omega)
      have e : (putL b h (j : Int) amt)[3] = un (amt == x.adds.getD j 0) 22 := by simp [putL, hx]
      rw [e]
      exact (put4_any S g gw ga ca g4 g6 g7 x j W amt hxw hj q7 q4 q6 q2).mono fun e w' ⟨he, hb⟩ => ⟨he, hW.then_ hb⟩

set_option maxHeartbeats 400000 in
set_option maxRecDepth 100000 in
theorem put_no (S : Nat → Prop) (g gs cs : Nat) (wp : Option Addr) (b : Bk) (h seat amt : Int) (w : World) (hB : BAt w S g gs cs wp b) (hE : putE b h seat amt ≠ 0) :
    Calls Try.prog 16 #[.pointer (some ⟨g, 0, none⟩), .int .i64 h, .int .i64 seat, .int .i64 amt] w fun e w' => e = .returned (.int .i64 (putE b h seat amt)) ∧ Below w.heap.size w w' := by
  have ht : (putE b h seat amt != 0) = true := by rw [bne_iff_ne]; exact hE
  clear hE
  go_enter Try.func16, Try.ntmps16
  go_wp2_with fail
  obtain ⟨p0, p1, p2, p3, p4, f0⟩ := blks5 (Below.refl (((((w.alloc (.cells #[.pointer (some ⟨g, 0, none⟩)] 24)).alloc (.cells #[.int .i64 h] 3)).alloc (.cells #[.int .i64 seat] 3)).alloc (.cells #[.int .i64 amt] 3)).alloc (.cells ((putF w.heap.size (w.heap.size + 1) (w.heap.size + 1 + 1) (w.heap.size + 1 + 1 + 1)).map fun f => Value.func (.func f.1) #[] f.2).toArray 81)).heap.size _)
  refine (putAsk S g gs cs wp b h seat amt _ _ _ _ _ _ (hB.below f0) p0 p1 p2 p3 p4).mono ?_
  rintro e w1 ⟨rfl, b1⟩
  have f1 := f0.then_ b1
  clear f0 b1 p0 p1 p2 p3 p4
  go_wp2_with fail
  go_ret
  exact ⟨rfl, f1⟩

set_option maxHeartbeats 1000000 in
set_option maxRecDepth 100000 in
theorem put_yes (S : Nat → Prop) (g gs cs : Nat) (wp : Option Addr) (b : Bk) (h seat amt : Int) (w : World) (hB : BAt w S g gs cs wp b) (hE : putE b h seat amt = 0) :
    Calls Try.prog 16 #[.pointer (some ⟨g, 0, none⟩), .int .i64 h, .int .i64 seat, .int .i64 amt] w fun e w' => e = .returned (.int .i64 0) ∧ ∃ wp', BAt w' S g gs cs wp' (putB b seat.toNat) ∧ Kept S w w' := by
  have h0 : askedE b h seat = 0 := firstOf_zero hE _ (by simp [putL])
  obtain ⟨e1, e2, e3, _⟩ := askedE_zero h0
  obtain ⟨x, hx⟩ := Option.isSome_iff_exists.1 e1
  obtain ⟨j, rfl⟩ : ∃ j : Nat, seat = (j : Int) := ⟨seat.toNat, by omega⟩
  obtain ⟨gw, ga, ca, rfl, hxw, n1, n2, n3, n4⟩ := hB.some_ x hx
  have hal := (hB.ok.adds x hx).1
  have hj : j < x.adds.length := by omega
  have hx8 := hxw.few
  have HX := Lib.hid hx
  have HE := Lib.hid hE
  clear hx hE h0 e1
  go_enter Try.func16, Try.ntmps16
  go_wp2_with fail
  obtain ⟨p0, p1, p2, p3, p4, f0⟩ := blks5 (Below.refl (((((w.alloc (.cells #[.pointer (some ⟨g, 0, none⟩)] 24)).alloc (.cells #[.int .i64 h] 3)).alloc (.cells #[.int .i64 (j : Int)] 3)).alloc (.cells #[.int .i64 amt] 3)).alloc (.cells ((putF w.heap.size (w.heap.size + 1) (w.heap.size + 1 + 1) (w.heap.size + 1 + 1 + 1)).map fun f => Value.func (.func f.1) #[] f.2).toArray 81)).heap.size _)
  refine (putAsk S g gs cs _ b h j amt _ _ _ _ _ _ (hB.below f0) p0 p1 p2 p3 p4).mono ?_
  rintro e w1 ⟨rfl, b1⟩
  rw [HE.out]
  have f1 := f0.then_ b1
  have hB1 := hB.below f1
  have p0' := p0.below b1 p0.lt
  have p2' := p2.below b1 p2.lt
  have hxw1 := hxw.kept (Kept.of_below (S := fun _ => False) f1) (fun _ _ h => h)
  clear f0 b1 p0 p1 p2 p3 p4
  have hgl := hB.lt g hB.inG
  have hsl := hB.lt gs hB.inS
  have hwl := hB.lt gw hxw.inW
  have hal' := hB.lt ga hxw.inA
  have c0 : w1.cell? ⟨w.heap.size, 0, none⟩ = some (.pointer (some ⟨g, 0, none⟩)) := p0'.cell 0
  have c2 : w1.cell? ⟨w.heap.size + 1 + 1, 0, none⟩ = some (.int .i64 (j : Int)) := p2'.cell 0
  have cg : w1.cell? ⟨g, 2, none⟩ = some (.pointer (some ⟨gw, 0, none⟩)) := hB1.blk.cell 2
  have hj0 : (0 : Int) ≤ (j : Int) := by omega
  have hj8 : (j : Int) < 8 := by omega
  have cl := hxw1.laid_ (show j < 8 by omega)
  have fl := hxw1.blk.frozen (11 + j)
  have hk1 : Kept (fun k => k = gw) w1 (w1.setCell ⟨gw, 11 + j, none⟩ (.bool true)) := (Kept.refl (fun k => k = gw) w1).setCell (fun _ => rfl) _
  have z1 := f1.size
  have d0 := (hk1.cell (p := ⟨w.heap.size, 0, none⟩) p0'.lt (by show ¬ w.heap.size = gw; omega)).trans c0
  have d2 := (hk1.cell (p := ⟨w.heap.size + 1 + 1, 0, none⟩) p2'.lt (by show ¬ w.heap.size + 1 + 1 = gw; omega)).trans c2
  have dg := (hk1.cell (p := ⟨g, 2, none⟩) hB1.blk.lt (fun h => n1 h)).trans cg
  go_wp2_with fail
  go_region_held3 (fun w' => w'.cell? ⟨w.heap.size, 0, none⟩ = some (.pointer (some ⟨g, 0, none⟩)) ∧ w'.cell? ⟨w.heap.size + 1 + 1, 0, none⟩ = some (.int .i64 (j : Int)) ∧ w'.cell? ⟨g, 2, none⟩ = some (.pointer (some ⟨gw, 0, none⟩)))
    (first | exact ⟨c0, c2, cg⟩ | exact ⟨d0, d2, dg⟩) (fail)
  have x2 : WAt (w1.setCell ⟨gw, 11 + j, none⟩ (.bool true)).drew S gw ga ca (layW x j true) := (hxw1.lay (show j < 8 by omega) true).kept ((Kept.refl (fun _ => False) _).drew) (fun _ _ h => h)
  have k2 : Kept S w (w1.setCell ⟨gw, 11 + j, none⟩ (.bool true)).drew := ((Kept.of_below (S := S) f1).trans (hk1.mono (fun k _ e => e ▸ hxw.inW))).drew
  have g2 : Blk (w1.setCell ⟨gw, 11 + j, none⟩ (.bool true)).drew g 72 #[.slice (some ⟨gs, 0, none⟩) b.stakes.length cs, .int .i64 b.last, .pointer (some ⟨gw, 0, none⟩)] := (hk1.drew.block g hB1.blk.lt (fun h => n1 h)).trans hB1.blk
  have s2 : IOwn (w1.setCell ⟨gw, 11 + j, none⟩ (.bool true)).drew gs cs b.stakes := hB1.stakes.kept hk1.drew (fun h => n3 h)
  have b2 : Blk (w1.setCell ⟨gw, 11 + j, none⟩ (.bool true)).drew w.heap.size 24 #[.pointer (some ⟨g, 0, none⟩)] := (hk1.drew.block w.heap.size p0'.lt (by omega)).trans p0'
  clear d0 d2 dg c0 c2 cg cl fl hk1 p0' p2' hxw1 hB1 f1 z1
  generalize (w1.setCell ⟨gw, 11 + j, none⟩ (.bool true)).drew = W2 at *
  have c0 : W2.cell? ⟨w.heap.size, 0, none⟩ = some (.pointer (some ⟨g, 0, none⟩)) := b2.cell 0
  have cg : W2.cell? ⟨g, 2, none⟩ = some (.pointer (some ⟨gw, 0, none⟩)) := g2.cell 2
  go_wp2_with fail
  refine (full_any S gw ga ca (layW x j true) _ x2).mono ?_
  rintro e w' ⟨rfl, rfl⟩
  cases hfull : fullW (layW x j true)
  · have HP : Hid (putB b ((j : Int)).toNat = { b with wt := some (layW x j true) }) := by rw [Hid, Int.toNat_natCast, putB, HX.out]; simp [hfull]
    clear hfull
    go_wp2_with fail
    go_ret
    refine ⟨rfl, some ⟨gw, 0, none⟩, ?_, k2⟩
    rw [HP.out]
    exact ⟨⟨hB.ok.two, hB.ok.few, hB.ok.right, hB.ok.pot, fun y hy => by injection hy with hy; subst hy; exact hB.ok.adds x HX.out⟩, hB.inG, hB.inS, hB.ne, fun k hk => Nat.lt_of_lt_of_le (hB.lt k hk) k2.size, g2, s2, (fun h => by cases h), fun y hy => by injection hy with hy; subst hy; exact ⟨gw, ga, ca, rfl, x2, n1, n2, n3, n4⟩⟩
  · have HP : Hid (putB b ((j : Int)).toNat = { b with stakes := List.zipWith (· + ·) b.stakes x.adds, wt := none }) := by rw [Hid, Int.toNat_natCast, putB, HX.out]; simp [hfull]
    clear hfull
    have ca9 := x2.adds_
    have hla : (layW x j true).adds = x.adds := rfl
    rw [hla] at ca9
    clear hla
    go_wp2_with fail
    have hn8 := hB.ok.few
    go_loopw [10, 11, 45] (fun _ _ i wr => ∃ k : Nat, k ≤ x.adds.length ∧ i = .int .i64 k ∧ Kept S w wr ∧ Blk wr w.heap.size 24 #[.pointer (some ⟨g, 0, none⟩)] ∧ Blk wr g 72 #[.slice (some ⟨gs, 0, none⟩) b.stakes.length cs, .int .i64 b.last, .pointer (some ⟨gw, 0, none⟩)] ∧ IOwn wr gs cs (addTo b.stakes x.adds k) ∧ IOwn wr ga ca x.adds) (fun _ _ i _ => x.adds.length - (intOf i).toNat)
    case atStart => exact ⟨0, by omega, rfl, k2, b2, g2, by rw [addTo_zero]; exact s2, x2.adds⟩
    case round =>
      obtain ⟨k, hk, rfl, kr, br, gr, sr, ar⟩ := hrel
      by_cases hlt : k < x.adds.length
      · have hks : k < b.stakes.length := by omega
        have c0 : wr.cell? ⟨w.heap.size, 0, none⟩ = some (.pointer (some ⟨g, 0, none⟩)) := br.cell 0
        have c1 : wr.cell? ⟨g, 0, none⟩ = some (.slice (some ⟨gs, 0, none⟩) b.stakes.length cs) := gr.cell 0
        have ck := ar.cell hlt
        have hlen := addTo_len hal (show k ≤ b.stakes.length by omega)
        have sk0 := sr.cell (i := k) (by rw [hlen]; exact hks)
        have e2 : (addTo b.stakes x.adds k)[k]'(by rw [hlen]; exact hks) = b.stakes[k] := by
          have := addTo_at hal hks
          rw [List.getElem?_eq_getElem (by rw [hlen]; exact hks)] at this
          exact Option.some.inj this
        rw [e2] at sk0
        have sf := sr.frozen k
        have r1 := rightB_iff.1 (hB.ok.right b.stakes[k] (List.getElem_mem _))
        have r2 := rightB_iff.1 (hxw.range x.adds[k] (List.getElem_mem _))
        have HS := Lib.hid (addTo_succ hal hks)
        have sr' := sr.set_ k (b.stakes[k] + x.adds[k])
        rw [HS.out] at sr'
        have kk : Kept (fun q => q = gs) wr (wr.setCell ⟨gs, k, none⟩ (.int .i64 (b.stakes[k] + x.adds[k]))) := (Kept.refl (fun q => q = gs) wr).setCell (fun _ => rfl) _
        clear e2 hlen
        generalize b.stakes[k] = s0 at *
        generalize x.adds[k] = a0 at *
        obtain ⟨r1a, r1b⟩ := r1
        obtain ⟨r2a, r2b⟩ := r2
        go_wp2_with fail
        go_roundw
        case rel => exact ⟨k + 1, by omega, by go_num, kr.trans (kk.mono (fun q _ e => e ▸ hB.inS)), (kk.block _ br.lt (by omega)).trans br, (kk.block _ gr.lt (fun e => hB.ne e)).trans gr, sr', ar.kept kk (fun e => n4 e.symm)⟩
        case measure => simp [intOf]; omega
      · have hke : k = b.stakes.length := by omega
        have sr' : IOwn wr gs cs (List.zipWith (· + ·) b.stakes x.adds) := by rw [← addTo_all hal, ← hke]; exact sr
        clear hke sr
        have c0 : wr.cell? ⟨w.heap.size, 0, none⟩ = some (.pointer (some ⟨g, 0, none⟩)) := br.cell 0
        have cg : wr.cell? ⟨g, 2, none⟩ = some (.pointer (some ⟨gw, 0, none⟩)) := gr.cell 2
        have fg := gr.frozen 2
        go_wp2_with fail
        go_ret
        have kk : Kept (fun q => q = g) wr (wr.setCell ⟨g, 2, none⟩ (.pointer none)) := (Kept.refl (fun q => q = g) wr).setCell (fun _ => rfl) _
        have kz := kr.trans (kk.mono (fun q _ e => e ▸ hB.inG))
        have gz := gr.set_ 2 (.pointer none)
        have hzl : (List.zipWith (· + ·) b.stakes x.adds).length = b.stakes.length := by simp; omega
        refine ⟨rfl, none, ?_, kz⟩
        rw [HP.out]
        have had := hB.ok.adds x HX.out
        exact ⟨⟨by rw [hzl]; exact hB.ok.two, by rw [hzl]; exact hB.ok.few, zip_right hB.ok.right hxw.range hal had.2, by rw [zip_sum hal]; exact had.2, fun y hy => by cases hy⟩, hB.inG, hB.inS, hB.ne, fun q hq => Nat.lt_of_lt_of_le (hB.lt q hq) kz.size, by rw [hzl]; exact gz, sr'.kept kk (fun e => hB.ne e.symm), fun _ => rfl, fun y hy => by cases hy⟩
end Go.Proofs.Ytdbffjipoiphpaa
