/-
  TopupApart: the walk.
-/
import Derived.Test.YtdbffjipoiphpaaT30
namespace Go.Proofs.Ytdbffjipoiphpaa
open Go.RowKit

/-- Two rows of integers, made by the call, apart. -/
structure TwoI (w : World) (g1 g2 n : Nat) (xs ys : List Int) (W : World) : Prop where
  one : IOwn W g1 n xs
  two : IOwn W g2 n ys
  ne : g1 ≠ g2
  lo1 : w.heap.size ≤ g1
  lo2 : w.heap.size ≤ g2
  fr : Below w.heap.size w W
section
variable {w W W' : World} {g1 g2 n : Nat} {xs ys : List Int}
theorem TwoI.kept {S : Nat → Prop} (h : TwoI w g1 g2 n xs ys W) (hk : Kept S W W') (h1 : ¬ S g1) (h2 : ¬ S g2) (h3 : ∀ k, S k → w.heap.size ≤ k) : TwoI w g1 g2 n xs ys W' :=
  ⟨h.one.kept hk h1, h.two.kept hk h2, h.ne, h.lo1, h.lo2, h.fr.trans (hk.to_below h.fr.size (fun k hk hS => by have := h3 k hS; omega))⟩
theorem TwoI.below (h : TwoI w g1 g2 n xs ys W) (hb : Below W.heap.size W W') : TwoI w g1 g2 n xs ys W' := h.kept (Kept.of_below (S := fun _ => False) hb) (fun h => h) (fun h => h) (fun _ h => h.elim)
theorem TwoI.drew (h : TwoI w g1 g2 n xs ys W) : TwoI w g1 g2 n xs ys W.drew := h.below (Below.refl _ W).drew
theorem TwoI.swap (h : TwoI w g1 g2 n xs ys W) : TwoI w g2 g1 n ys xs W := ⟨h.two, h.one, h.ne.symm, h.lo2, h.lo1, h.fr⟩
theorem TwoI.set1 (h : TwoI w g1 g2 n xs ys W) (i : Nat) (x : Int) : TwoI w g1 g2 n (xs.set i x) ys (W.setCell ⟨g1, i, none⟩ (.int .i64 x)) := by
  have k : Kept (fun q => q = g1) W (W.setCell ⟨g1, i, none⟩ (.int .i64 x)) := (Kept.refl (fun q => q = g1) W).setCell (p := ⟨g1, i, none⟩) (fun _ => rfl) _
  have l1 := h.lo1
  exact ⟨h.one.set_ i x, h.two.kept k (fun e => h.ne e.symm), h.ne, h.lo1, h.lo2, h.fr.trans (k.to_below h.fr.size (fun q hq e => by omega))⟩
theorem TwoI.set2 (h : TwoI w g1 g2 n xs ys W) (i : Nat) (x : Int) : TwoI w g1 g2 n xs (ys.set i x) (W.setCell ⟨g2, i, none⟩ (.int .i64 x)) := (h.swap.set1 i x).swap
end
theorem twoI_new (w : World) (n : Nat) (hn : n ≤ 1000) : TwoI w w.heap.size (w.heap.size + 1) n (List.replicate n 0) (List.replicate n 0) ((w.alloc (zeros n)).alloc (zeros n)) := by
  have h1 := zeros_own w n hn
  have h2 := zeros_own (w.alloc (zeros n)) n hn
  have hs : (w.alloc (zeros n)).heap.size = w.heap.size + 1 := by simp
  rw [hs] at h2
  exact ⟨h1.kept (Kept.of_below (S := fun _ => False) ((Below.refl _ (w.alloc (zeros n))).al _)) (fun h => h), h2, by omega, Nat.le_refl _, by omega, ((Below.refl _ w).al _).al _⟩

/-- What Open gives of this law's bank. -/
def ApOpened (w : World) (a : List Int) (n : Nat) (e : Ending) (w' : World) : Prop := ∃ ga ca gl,
  e = .returned (.tuple #[.agg #[.int .u8 0, .int .u8 0, .int .u8 0, .int .u8 0, .int .u8 0, .int .u8 0, .int .u8 0, .int .u8 0, .int .i64 1, .slice (some ⟨ga, 0, none⟩) n ca, .int .i64 9], .slice (some ⟨gl, 0, none⟩) n n, .bool true]) ∧
  IOwn w' ga ca a ∧ IOwn w' gl n (givenL (apW a) n) ∧ w.heap.size ≤ ga ∧ w.heap.size ≤ gl ∧ ga ≠ gl ∧ Below w.heap.size w w'
theorem open_ap {S : Nat → Prop} {g gs cs : Nat} {wp : Option Addr} {s a : List Int} {w : World} {n : Nat} (hB : BAt w S g gs cs wp (apB s a)) (h1 : s.length = n) (h2 : a.length = n) :
    Calls Try.prog 12 #[.pointer (some ⟨g, 0, none⟩)] w (ApOpened w a n) := by
  refine (open_some S g gs cs wp _ (apW a) w hB rfl).mono ?_
  rintro e w' ⟨ga, ca, gl, rfl, i1, i2, l1, l2, l3, hb⟩
  have e1 : (apB s a).stakes.length = n := h1
  rw [e1] at i2 ⊢
  refine ⟨ga, ca, gl, ?_, i1, i2, l1, l2, l3, hb⟩
  rw [← h2]
  rfl
theorem IOwn.below {w w' : World} {g c : Nat} {xs : List Int} (h : IOwn w g c xs) (hb : Below w.heap.size w w') : IOwn w' g c xs := h.kept (Kept.of_below (S := fun _ => False) hb) (fun h => h)
theorem IOwn.cellD {w : World} {g c : Nat} {xs : List Int} (h : IOwn w g c xs) {i : Nat} (hi : i < xs.length) : w.cell? ⟨g, i, none⟩ = some (.int .i64 (xs.getD i 0)) := by rw [h.cell hi, getD_at hi]

theorem held_ap {S : Nat → Prop} {g gs cs : Nat} {wp : Option Addr} {s a : List Int} {w : World} (hB : BAt w S g gs cs wp (apB s a)) :
    Calls Try.prog 11 #[.pointer (some ⟨g, 0, none⟩)] w fun e w' => e = .returned (.int .i64 s.sum) ∧ Below w.heap.size w w' := by
  refine (held_any S g gs cs wp (apB s a) w hB).mono ?_
  rintro e w' ⟨rfl, hb⟩
  exact ⟨by rw [ap_held], hb⟩
theorem pot_ap {S : Nat → Prop} {g gs cs : Nat} {wp : Option Addr} {s a : List Int} {w : World} (hB : BAt w S g gs cs wp (apB s a)) :
    Calls Try.prog 18 #[.pointer (some ⟨g, 0, none⟩)] w fun e w' => e = .returned (.int .i64 s.sum) ∧ Below w.heap.size w w' := by
  refine (pot_any S g gs cs wp (apB s a) w hB).mono ?_
  rintro e w' ⟨rfl, rfl⟩
  exact ⟨rfl, Below.refl _ _⟩
theorem kept3 (gl ga gd q : Nat) (w : World) (v1 v2 v3 : Value) (n : Nat) : Kept (fun z => z = gl ∨ z = ga ∨ z = gd) w ((((w.drewN n).setCell ⟨gl, q, none⟩ v1).setCell ⟨ga, q, none⟩ v2).setCell ⟨gd, q, none⟩ v3) :=
  ((((Kept.refl (fun z => z = gl ∨ z = ga ∨ z = gd) w).drewN n).setCell (p := ⟨gl, q, none⟩) (fun _ => .inl rfl) _).setCell (p := ⟨ga, q, none⟩) (fun _ => .inr (.inl rfl)) _).setCell (p := ⟨gd, q, none⟩) (fun _ => .inr (.inr rfl)) _

set_option maxHeartbeats 8000000 in
set_option maxRecDepth 100000 in
theorem apart_walk (A0 A1 : Option Addr) (n0 c0 n1 c1 : Nat) (xs ys : List Int) (kk : Int) (w : World) (hx : RV w A0 n0 (xs.map (Value.int .u16))) (hy : RV w A1 n1 (ys.map (Value.int .u16))) (hxw : ∀ z ∈ xs, 0 ≤ z ∧ z ≤ 65535) (hyw : ∀ z ∈ ys, 0 ≤ z ∧ z ≤ 65535) (hkk : 0 ≤ kk ∧ kk ≤ 255) :
    Calls Try.prog 6 #[.slice A0 n0 c0, .slice A1 n1 c1, .int .u8 kk] w (Tells w true) := by
  obtain ⟨m, hm⟩ : ∃ m, m = min (min n0 n1) 8 := ⟨_, rfl⟩
  have hmn : min (min (n0 : Int) (n1 : Int)) 8 = (m : Int) := by omega
  have hm8 : m ≤ 8 := by omega
  have hm0 : m ≤ n0 := by omega
  have hm1 : m ≤ n1 := by omega
  have hxl : n0 = xs.length := by have := hx.len; simpa using this
  have hyl : n1 = ys.length := by have := hy.len; simpa using this
  obtain ⟨s, hs⟩ : ∃ s, s = xs.take m := ⟨_, rfl⟩
  obtain ⟨a, ha⟩ : ∃ a, a = (ys.take m).map (1 + ·) := ⟨_, rfl⟩
  have hsl : s.length = m := by rw [hs]; simp; omega
  have hal : a.length = m := by rw [ha]; simp; omega
  have hsw : ∀ z ∈ s, 0 ≤ z ∧ z ≤ 65535 := fun z hz => hxw z (by rw [hs] at hz; exact List.mem_of_mem_take hz)
  have haw : ∀ z ∈ a, 1 ≤ z ∧ z ≤ 65536 := fun z hz => by
    rw [ha, List.mem_map] at hz
    obtain ⟨y, hy, rfl⟩ := hz
    have := hyw y (List.mem_of_mem_take hy)
    omega
  have hsx : ∀ k, k < m → xs.getD k 0 = s.getD k 0 := fun k h => by rw [← getD_at (l := xs) (by omega), ← getD_at (l := s) (by omega)]; simp [hs]
  have hay : ∀ k, k < m → 1 + ys.getD k 0 = a.getD k 0 := fun k h => by rw [← getD_at (l := ys) (by omega), ← getD_at (l := a) (by omega)]; simp [ha]
  have HX := Lib.hid hx
  have HY := Lib.hid hy
  have HSX := Lib.hid hsx
  have HAY := Lib.hid hay
  have HSW := Lib.hid hsw
  have HAW := Lib.hid haw
  have HSL := Lib.hid hsl
  have HAL := Lib.hid hal
  have HXW := Lib.hid hxw
  have HYW := Lib.hid hyw
  have HXL := Lib.hid hxl
  have HYL := Lib.hid hyl
  clear hx hy hsx hay hsw haw hxw hyw hs ha hm hsl hal hxl hyl
  obtain ⟨hk0, hk1⟩ := hkk
  have hmk := run_make_ints m (by omega)
  go_enter Try.func6, Try.ntmps6
  go_upto_region 1 with fail
  go_cut [7, 29] (fun v _ wx => wx = w ∧ v = .int .i64 (m : Int))
  case first =>
    go_wp2_with fail
    all_goals
      go_meet
      case rel => exact ⟨rfl, congrArg (Value.int .i64) (by omega)⟩
  case rest =>
    obtain ⟨hwc, rfl⟩ := hcut
    have hwc' := hwc.symm
    subst hwc'
    clear hmn hwc
    go_upto_region 2 with fail
    go_cut [8, 9] (fun v u wx => ∃ g1 g2, v = .slice (some ⟨g1, 0, none⟩) m m ∧ u = .slice (some ⟨g2, 0, none⟩) m m ∧ TwoI w g1 g2 m (List.replicate m 0) (List.replicate m 0) wx)
    case first =>
      go_region_held3 (fun _ => True) (trivial) (fail)
      all_goals
        go_wp2_with fail
        go_meet
        case rel => first | exact ⟨_, _, rfl, rfl, (twoI_new w m (by omega)).drew⟩ | exact ⟨_, _, rfl, rfl, (twoI_new w m (by omega)).swap.drew⟩
    case rest =>
      obtain ⟨g1, g2, rfl, rfl, tw⟩ := hcut
      clear hmk
      have TW : Hid (TwoI w g1 g2 m (fillTo s 0) (fillTo a 0) wc) := by rw [Hid, fillTo_zero, fillTo_zero, HSL.out, HAL.out]; exact tw
      clear tw
      go_wp2_with fail
      go_loopw [10] (fun i W => ∃ k : Nat, k ≤ m ∧ i = .int .i64 k ∧ Hid (TwoI w g1 g2 m (fillTo s k) (fillTo a k) W)) (fun i _ => m - (intOf i).toNat)
      case atStart => exact ⟨0, by omega, rfl, TW⟩
      case round =>
        clear TW
        obtain ⟨k, hk, rfl, TW⟩ := hrel
        by_cases hlt : k < m
        · have tw := TW.out
          clear TW
          obtain ⟨bx, ox, rfl, hbx, hlx, hcx⟩ := HX.out.at_ (k := k) (by omega)
          obtain ⟨by_, oy, rfl, hby, hly, hcy⟩ := HY.out.at_ (k := k) (by omega)
          have hlx' : k < xs.length := by simpa using hlx
          have hly' : k < ys.length := by simpa using hly
          have hwx := HXW.out _ (List.getElem_mem hlx')
          have hwy := HYW.out _ (List.getElem_mem hly')
          simp only [List.getElem_map] at hcx hcy
          rw [getD_at hlx'] at hcx hwx
          rw [getD_at hly'] at hcy hwy
          have HFS := Lib.hid (fillTo_succ s k (by rw [HSL.out]; exact hlt))
          have HFA := Lib.hid (fillTo_succ a k (by rw [HAL.out]; exact hlt))
          rw [← HSX.out k hlt] at HFS
          rw [← HAY.out k hlt] at HFA
          have hne := tw.ne
          have hne' := hne.symm
          have q1 := tw.one.cellD (i := k) (by rw [fillTo_len s k (by rw [HSL.out]; omega), HSL.out]; exact hlt)
          have q2 := tw.two.cellD (i := k) (by rw [fillTo_len a k (by rw [HAL.out]; omega), HAL.out]; exact hlt)
          have z1 := tw.one.frozen k
          have z2 := tw.two.frozen k
          generalize xs.getD k 0 = x at *
          generalize ys.getD k 0 = y at *
          generalize (fillTo s k).getD k 0 = o1 at *
          generalize (fillTo a k).getD k 0 = o2 at *
          obtain ⟨hx0, hx1⟩ := hwx
          obtain ⟨hy0, hy1⟩ := hwy
          have keepx : ∀ W, Below w.heap.size w W → W.cell? ⟨bx, ox + k, none⟩ = some (.int .u16 x) ∧ W.cell? ⟨by_, oy + k, none⟩ = some (.int .u16 y) := fun W hW => ⟨(hW.cell (p := ⟨bx, ox + k, none⟩) hbx).trans hcx, (hW.cell (p := ⟨by_, oy + k, none⟩) hby).trans hcy⟩
          have KX := Lib.hid keepx
          clear keepx hcx hcy hlx hly hlx' hly'
          have g1_ : (0 : Int) ≤ (k : Int) := by omega
          have g2_ : (k : Int) < (n0 : Int) := by omega
          have g3_ : (k : Int) < (n1 : Int) := by omega
          have g4_ : (k : Int) < (m : Int) := by omega
          have cvx : IntKind.i64.wrap x = x := IntWalk.i64_in _ (by omega)
          have cvy : IntKind.i64.wrap y = y := IntWalk.i64_in _ (by omega)
          have cvz : IntKind.i64.wrap (1 + y) = 1 + y := IntWalk.i64_in _ (by omega)
          go_wp2_with fail
          go_region_held3 (fun w' => w'.cell? ⟨bx, ox + k, none⟩ = some (.int .u16 x) ∧ w'.cell? ⟨by_, oy + k, none⟩ = some (.int .u16 y))
            (first | exact KX.out _ tw.drew.fr | exact KX.out _ (tw.set1 k _).drew.fr | exact KX.out _ (tw.set2 k _).drew.fr | exact KX.out _ ((tw.set1 k _).set2 k _).drew.fr | exact KX.out _ ((tw.set2 k _).set1 k _).drew.fr)
            (fail)
          clear cvx cvy cvz
          all_goals
            go_wp2_with fail
            go_roundw
            case rel => exact ⟨k + 1, by omega, by go_num, by rw [← HFS.out, ← HFA.out]; first | exact ((tw.set1 k _).set2 k _).drew | exact ((tw.set2 k _).set1 k _).drew⟩
            case measure => simp [intOf]; omega
        · obtain rfl : k = m := by omega
          have tw := TW.out
          rw [show fillTo s k = s from by rw [← HSL.out]; exact fillTo_all s, show fillTo a k = a from by rw [← HAL.out]; exact fillTo_all a] at tw
          clear TW HX HY HXW HYW HSX HAY HXL HYL
          have r1 := tw.one.ri
          rw [HSL.out] at r1
          by_cases h2 : 2 ≤ k
          case neg =>
            go_wp2_with fail
            refine (new_no _ _ _ s _ r1 (by omega) (rs_notnew (by rw [HSL.out]; omega))).mono ?_
            rintro e w1 ⟨z, rfl, rfl⟩
            go_wp2_with fail
            refine (known_any _).mono ?_
            rintro e w2 ⟨rfl, b2⟩
            go_wp2_with fail
            go_ret
            exact ⟨by simp; omega, tw.fr.then_ b2⟩
          go_wp2_with fail
          refine (new_yes _ _ _ s _ r1 (rs_new (by rw [HSL.out]; exact h2) (by rw [HSL.out]; exact hm8) HSW.out)).mono ?_
          rintro e w1 ⟨S, g, gs, cs, rfl, B1, hS, b1⟩
          have t1 := tw.below b1
          have l1 := tw.one.lt
          have l2 := tw.two.lt
          have r2 := t1.two.ri
          rw [HAL.out] at r2
          have z1 := b1.size
          have HS := Lib.hid hS
          have HE : Hid (askE ⟨s, -1, none⟩ 5 1 a 9 = 0) := ap_ask (by rw [HSL.out]; exact h2) (by rw [HSL.out]; exact hm8) (by rw [HSL.out, HAL.out]) HSW.out HAW.out
          clear r1 tw hS b1
          go_wp2_with fail
          refine (ask_yes S g gs cs none ⟨s, -1, none⟩ 5 0 0 0 0 0 0 0 0 1 9 _ _ _ a _ B1 r2 (by omega) HE.out).mono ?_
          rintro e w2 ⟨rfl, S2, wp2, B2, k2, hS2⟩
          obtain ⟨M, hM⟩ : ∃ M, M = wr.heap.size := ⟨_, rfl⟩
          rw [← hM] at HS l1 l2 z1
          have lo1 := t1.lo1
          have HS2 : Hid (∀ q, S2 q → M ≤ q) := fun q hq => by
            rcases hS2 q hq with h | h
            · exact HS.out q h
            · omega
          have t2 := t1.kept k2 (fun h => by have := HS.out _ h; omega) (fun h => by have := HS.out _ h; omega) (fun q h => by have := HS.out q h; omega)
          have B2' : BAt w2 S2 g gs cs wp2 (apB s a) := B2
          have z2 : M ≤ w2.heap.size := by have := k2.size; omega
          have ST : Hid (TwoI w g1 g2 k (incTo s 0) (incTo a 0) w2 ∧ BAt w2 S2 g gs cs wp2 (apB s a) ∧ M ≤ w2.heap.size) := by
            rw [Hid, incTo_zero, incTo_zero]; exact ⟨t2, B2', z2⟩
          clear t1 t2 B1 B2 B2' k2 hS2 r2 hM HS z1 z2 HE
          go_wp2_with fail
          go_loopw [14] (fun i W => ∃ j : Nat, j ≤ k ∧ i = .int .i64 j ∧ Hid (TwoI w g1 g2 k (incTo s j) (incTo a j) W ∧ BAt W S2 g gs cs wp2 (apB s a) ∧ M ≤ W.heap.size)) (fun i _ => k - (intOf i).toNat)
          case atStart => exact ⟨0, by omega, rfl, ST⟩
          case round =>
            clear ST
            obtain ⟨j, hj, rfl, ST⟩ := hrel
            obtain ⟨tw, B, zM⟩ := ST.out
            clear ST
            by_cases hlt : j < k
            · have q1 := tw.one.cellD (i := j) (by rw [incTo_len s j (by rw [HSL.out]; omega), HSL.out]; exact hlt)
              have q2 := tw.two.cellD (i := j) (by rw [incTo_len a j (by rw [HAL.out]; omega), HAL.out]; exact hlt)
              rw [incTo_at s j (by rw [HSL.out]; exact hlt)] at q1
              rw [incTo_at a j (by rw [HAL.out]; exact hlt)] at q2
              have f1 := tw.one.frozen j
              have f2 := tw.two.frozen j
              have hne := tw.ne
              have hne' := hne.symm
              have HIS := Lib.hid (incTo_succ s j (by rw [HSL.out]; exact hlt))
              have HIA := Lib.hid (incTo_succ a j (by rw [HAL.out]; exact hlt))
              have w1_ := HSW.out _ (List.getElem_mem (l := s) (n := j) (by rw [HSL.out]; exact hlt))
              have w2_ := HAW.out _ (List.getElem_mem (l := a) (n := j) (by rw [HAL.out]; exact hlt))
              rw [getD_at] at w1_ w2_
              generalize s.getD j 0 = x at *
              generalize a.getD j 0 = y at *
              obtain ⟨hx0, hx1⟩ := w1_
              obtain ⟨hy0, hy1⟩ := w2_
              have tw' := (tw.set1 j (x + 1)).set2 j (y + 1)
              rw [HIS.out, HIA.out] at tw'
              have kb : Kept (fun q => q = g1 ∨ q = g2) wr ((wr.setCell ⟨g1, j, none⟩ (.int .i64 (x + 1))).setCell ⟨g2, j, none⟩ (.int .i64 (y + 1))) := ((Kept.refl (fun q => q = g1 ∨ q = g2) wr).setCell (p := ⟨g1, j, none⟩) (fun _ => .inl rfl) _).setCell (p := ⟨g2, j, none⟩) (fun _ => .inr rfl) _
              have B' := B.kept kb (fun q hq e => by have := HS2.out q hq; omega)
              have zM' := Nat.le_trans zM kb.size
              have ST' := Lib.hid (And.intro tw' (And.intro B' zM'))
              clear tw' B' zM' kb tw B zM
              go_wp2_with fail
              go_roundw
              case rel => exact ⟨j + 1, by omega, by go_num, ST'⟩
              case measure => simp [intOf]; omega
            · obtain rfl : j = k := by omega
              rw [show incTo s j = s.map (· + 1) from by rw [← HSL.out]; exact incTo_all s, show incTo a j = a.map (· + 1) from by rw [← HAL.out]; exact incTo_all a] at tw
              have hs1 : (apB s a).stakes.length = j := HSL.out
              have hsum : (apB s a).stakes.sum = s.sum := rfl
              have HS1 := Lib.hid hs1
              have HSUM := Lib.hid hsum
              clear hs1 hsum
              obtain ⟨q, hqj, hq⟩ := rem_form kk j (by omega)
              have HQ := Lib.hid hq
              clear hq
              have hqs : q < s.length := by rw [HSL.out]; exact hqj
              have hqa : q < a.length := by rw [HAL.out]; exact hqj
              have u1 := HSW.out _ (List.getElem_mem hqs)
              have u2 := HAW.out _ (List.getElem_mem hqa)
              rw [getD_at] at u1 u2
              have m1 := map_getD s (· + 1) q hqs
              have m2 := map_getD a (· + 1) q hqa
              have HAP : Hid (putE (apB s a) 6 q (a.getD q 0) = 0) := ap_put hqs HAW.out
              obtain ⟨sq', hsq⟩ : ∃ x, s.getD q 0 = x := ⟨_, rfl⟩
              obtain ⟨aq', haq⟩ : ∃ x, a.getD q 0 = x := ⟨_, rfl⟩
              rw [hsq] at u1 m1
              rw [haq] at u2 m2 HAP
              have HSQ := Lib.hid hsq
              have HAQ := Lib.hid haq
              have HM1 := Lib.hid m1
              have HM2 := Lib.hid m2
              clear hsq haq m1 m2
              obtain ⟨u1a, u1b⟩ := u1
              obtain ⟨u2a, u2b⟩ := u2
              go_wp2_with fail
              refine (stakes_any S2 g gs cs wp2 (apB s a) _ B).mono ?_
              rintro e w3 ⟨gl, cl, rfl, hgl, il, b3⟩
              rw [HS1.out]
              have il3 : IOwn w3 gl cl s := il
              have B3 := B.below b3
              have t3 := tw.below b3
              have gll := il3.lt
              clear il
              go_wp2_with fail
              refine (open_ap B3 HSL.out HAL.out).mono ?_
              rintro e w4 ⟨ga, ca, gd, rfl, ia4, id4, hga, hgd, hgad, b4⟩
              have B4 := B3.below b4
              have t4 := t3.below b4
              have il4 := il3.below b4
              have gal := ia4.lt
              have gdl := id4.lt
              have z4 := b4.size
              have z3 := b3.size
              have hB4 := Lib.hid B4.lt
              clear B3 t3 il3
              go_wp2_with fail
              have fa : Below w4.heap.size w4 (w4.alloc (.cells #[.int .u8 0, .int .u8 0, .int .u8 0, .int .u8 0, .int .u8 0, .int .u8 0, .int .u8 0, .int .u8 0, .int .i64 1, .slice (some ⟨ga, 0, none⟩) j ca, .int .i64 9] 33)) := (Below.refl _ w4).al _
              have nb := Blk.new w4 33 #[.int .u8 0, .int .u8 0, .int .u8 0, .int .u8 0, .int .u8 0, .int .u8 0, .int .u8 0, .int .u8 0, .int .i64 1, .slice (some ⟨ga, 0, none⟩) j ca, .int .i64 9]
              refine (bclone_any S2 g gs cs wp2 (apB s a) _ (B4.below fa)).mono ?_
              rintro e w6 ⟨T, c, gt, ct, tp, rfl, C6, hT, b6⟩
              have fb := fa.then_ b6
              have B6 := B4.below fb
              have t6 := t4.below fb
              have il6 := il4.below fb
              have ia6 := ia4.below fb
              have id6 := id4.below fb
              have nb6 := nb.below b6 (by simp)
              have hT' : ∀ k, T k → w4.heap.size < k := fun k hk => by have := hT k hk; simp at this; omega
              have HT := Lib.hid hT'
              have z6 := fb.size
              obtain ⟨R, hR⟩ : ∃ R, R = w4.heap.size := ⟨_, rfl⟩
              rw [← hR] at nb6 HT hB4 gal gdl z6 z4
              rw [← hR]
              clear hT hT' nb fa fb b6 B4 t4 il4 ia4 id4 hR
              have cl6 := il6.cellD (i := q) hqs
              have cs6 := t6.one.cellD (i := q) (by simpa using hqs)
              have cr6 : w6.cell? ⟨R, 9, none⟩ = some (.slice (some ⟨ga, 0, none⟩) j ca) := nb6.cell 9
              have ca6 := ia6.cellD (i := q) hqa
              have cb6 := t6.two.cellD (i := q) (by simpa using hqa)
              have cd6 := id6.cellD (i := q) (by simp [givenL]; exact hqj)
              rw [HSQ.out] at cl6
              rw [HAQ.out] at ca6
              rw [HM1.out] at cs6
              rw [HM2.out] at cb6
              have fl6 := il6.frozen q
              have fa6 := ia6.frozen q
              have fd6 := id6.frozen q
              generalize (givenL (apW a) j).getD q 0 = gv at *
              have e1 : gl ≠ ga := by omega
              have e2 : gl ≠ gd := by omega
              have e3 : gl ≠ R := by omega
              have e4 : ga ≠ R := by omega
              have e5 : gd ≠ R := by omega
              have e1' := e1.symm
              have e2' := e2.symm
              have e3' := e3.symm
              have e4' := e4.symm
              have e5' := e5.symm
              have e6' := hgad.symm
              go_upto_region 22 with fail
              rw [HQ.out]
              have p0 : (0 : Int) ≤ (q : Int) := by omega
              have p1 : (q : Int) < (j : Int) := by omega
              have p2 : (sq' != sq') = false := by simp
              have p3 : (aq' != aq') = false := by simp
              have p4 : IntKind.i64.wrap (sq' + 1 - 1) = sq' := by rw [IntWalk.i64_in _ (by omega)]; omega
              have p5 : IntKind.i64.wrap (aq' + 1 - 1) = aq' := by rw [IntWalk.i64_in _ (by omega)]; omega
              have p6 : IntKind.i64.wrap sq' = sq' := by rw [IntWalk.i64_in _ (by omega)]
              have p7 : IntKind.i64.wrap aq' = aq' := by rw [IntWalk.i64_in _ (by omega)]
              go_quiet (fail)
              clear p4 p5 p6 p7
              go_wp2_with fail
              have sepS : ∀ k, S2 k → ¬ (k = gl ∨ k = ga ∨ k = gd) := fun k hk e => by have := B.lt k hk; omega
              have sepT : ∀ k, T k → ¬ (k = gl ∨ k = ga ∨ k = gd) := fun k hk e => by have := HT.out k hk; omega
              have K7 := kept3 gl ga gd q w6 (.int .i64 (sq' + 1)) (.int .i64 (aq' + 1)) (.int .i64 (wrap64 (gv + 1))) nq
              generalize ((((w6.drewN nq).setCell ⟨gl, q, none⟩ (.int .i64 (sq' + 1))).setCell ⟨ga, q, none⟩ (.int .i64 (aq' + 1))).setCell ⟨gd, q, none⟩ (.int .i64 (wrap64 (gv + 1)))) = W7 at K7 ⊢
              refine (open_ap (B6.kept K7 sepS) HSL.out HAL.out).mono ?_
              rintro e w8 ⟨ga2, ca2, gd2, rfl, ia8, id8, hga2, hgd2, hgad2, b8⟩
              have K8 := K7.below_ b8
              have z8 := K8.size
              have hz8 : w6.heap.size ≤ ga2 := Nat.le_trans K7.size hga2
              have B8 := B6.kept K8 sepS
              have C8 := C6.kept K8 sepT
              have t8 := t6.kept K8 (fun e => by omega) (fun e => by omega) (fun k e => by omega)
              clear b8 K8 hga2 hgd2 id8 cl6 cs6 cr6 ca6 cb6 cd6 fl6 fa6 fd6 il6 ia6 id6 nb6 B6 t6 e1 e2 e3 e4 e5 e1' e2' e3' e4' e5' e6'
              go_wp2_with fail
              have fc : Below w8.heap.size w8 (w8.alloc (.cells #[.int .u8 0, .int .u8 0, .int .u8 0, .int .u8 0, .int .u8 0, .int .u8 0, .int .u8 0, .int .u8 0, .int .i64 1, .slice (some ⟨ga2, 0, none⟩) j ca2, .int .i64 9] 33)) := (Below.refl _ w8).al _
              have nc := Blk.new w8 33 #[.int .u8 0, .int .u8 0, .int .u8 0, .int .u8 0, .int .u8 0, .int .u8 0, .int .u8 0, .int .u8 0, .int .i64 1, .slice (some ⟨ga2, 0, none⟩) j ca2, .int .i64 9]
              refine (stakes_any S2 g gs cs wp2 (apB s a) _ (B8.below fc)).mono ?_
              rintro e w9 ⟨gx, cx, rfl, hgx, ix, b9⟩
              rw [HS1.out]
              have ix9 : IOwn w9 gx cx s := ix
              have fd := fc.then_ b9
              have nc9 := nc.below b9 (by simp)
              have B9 := B8.below fd
              have C9 := C8.below fd
              have t9 := t8.below fd
              have ia9 := ia8.below fd
              have hgx' : w8.heap.size < gx := by simp at hgx; omega
              have hC9 := Lib.hid C6.lt
              have gal2 := ia8.lt
              obtain ⟨R2, hR2⟩ : ∃ R2, R2 = w8.heap.size := ⟨_, rfl⟩
              rw [← hR2] at nc9 hgx' z8 gal2
              rw [← hR2]
              clear ix fc nc b9 fd B8 C8 t8 ia8 hgx hR2
              have cb9 := t9.two.cellD (i := q) (by simpa using hqa)
              rw [HM2.out] at cb9
              go_wp2_with fail
              refine (put_yes T c gt ct tp (apB s a) 6 q aq' _ C9 HAP.out).mono ?_
              rintro e w10 ⟨rfl, tp10, C10, k10⟩
              rw [Int.toNat_natCast, ap_putB (by rw [HAL.out]; exact h2) HAW.out] at C10
              have hTlt : ∀ k, T k → k < w6.heap.size := hC9.out
              have B10 := B9.kept k10 (fun k hk hT => by have h1 := HT.out k hT; have h2 := hB4.out k hk; omega)
              have t10 := t9.kept k10 (fun hT => by have := HT.out _ hT; omega) (fun hT => by have := HT.out _ hT; omega) (fun k hT => by have h1 := HT.out _ hT; have h2 := t9.lo1; omega)
              have ix10 := ix9.kept k10 (fun hT => by have := hTlt _ hT; omega)
              have ia10 := ia9.kept k10 (fun hT => by have := hTlt _ hT; omega)
              have nc10 := nc9.kept k10 (fun hT => by have := hTlt _ hT; omega)
              clear B9 C9 t9 ix9 ia9 nc9 k10 cb9
              have keep : ∀ W, Below w10.heap.size w10 W → W.cell? ⟨gx, q, none⟩ = some (.int .i64 sq') ∧ W.cell? ⟨g1, q, none⟩ = some (.int .i64 (sq' + 1)) ∧ W.cell? ⟨R2, 9, none⟩ = some (.slice (some ⟨ga2, 0, none⟩) j ca2) ∧ W.cell? ⟨ga2, q, none⟩ = some (.int .i64 aq') ∧ W.cell? ⟨g2, q, none⟩ = some (.int .i64 (aq' + 1)) := fun W hW => by
                have y1 := (ix10.below hW).cellD (i := q) hqs
                have y2 := (t10.below hW).one.cellD (i := q) (by simpa using hqs)
                have y3 : W.cell? ⟨R2, 9, none⟩ = some (.slice (some ⟨ga2, 0, none⟩) j ca2) := (nc10.below hW nc10.lt).cell 9
                have y4 := (ia10.below hW).cellD (i := q) hqa
                have y5 := (t10.below hW).two.cellD (i := q) (by simpa using hqa)
                rw [HSQ.out] at y1
                rw [HAQ.out] at y4
                rw [HM1.out] at y2
                rw [HM2.out] at y5
                exact ⟨y1, y2, y3, y4, y5⟩
              have KS := Lib.hid keep
              clear keep
              have rr : Below w10.heap.size w10 w10.drew := (Below.refl _ w10).drew
              have fr := t10.fr
              have HD : Hid ((apW a).laid ≠ (layW (apW a) q true).laid) := ap_differ hqa (by rw [HAL.out]; exact hm8) HAW.out
              have p8 : (s.sum == s.sum) = true := by simp
              have p9 : (sq' == sq') = true := by simp
              have p10 : (aq' == aq') = true := by simp
              have HSC := Lib.hid (fun W (r : Below w10.heap.size w10 W) => same_laid T S2 c gt ct g gs cs tp10 wp2 _ (apB s a) (layW (apW a) q true) (apW a) W (C10.below r) (B10.below r) rfl rfl rfl rfl rfl rfl rfl rfl HD.out.symm)
              have HSB := Lib.hid (fun W (r : Below w10.heap.size w10 W) => same_laid S2 T g gs cs c gt ct wp2 tp10 (apB s a) _ (apW a) (layW (apW a) q true) W (B10.below r) (C10.below r) rfl rfl rfl rfl rfl rfl rfl rfl HD.out)
              have HHD := Lib.hid (fun W (r : Below w10.heap.size w10 W) => held_ap (B10.below r))
              have HPT := Lib.hid (fun W (r : Below w10.heap.size w10 W) => pot_ap (B10.below r))
              clear ix10 t10 nc10 ia10 B10 C10
              go_wp2_with fail
              have p4 : IntKind.i64.wrap (sq' + 1 - 1) = sq' := by rw [IntWalk.i64_in _ (by omega)]; omega
              have p5 : IntKind.i64.wrap (aq' + 1 - 1) = aq' := by rw [IntWalk.i64_in _ (by omega)]; omega
              have p6 : IntKind.i64.wrap sq' = sq' := by rw [IntWalk.i64_in _ (by omega)]
              have p7 : IntKind.i64.wrap aq' = aq' := by rw [IntWalk.i64_in _ (by omega)]
              go_region_held3 (fun W => W.cell? ⟨gx, q, none⟩ = some (.int .i64 sq') ∧ W.cell? ⟨g1, q, none⟩ = some (.int .i64 (sq' + 1)) ∧ W.cell? ⟨R2, 9, none⟩ = some (.slice (some ⟨ga2, 0, none⟩) j ca2) ∧ W.cell? ⟨ga2, q, none⟩ = some (.int .i64 aq') ∧ W.cell? ⟨g2, q, none⟩ = some (.int .i64 (aq' + 1)))
                (with_reducible exact KS.out _ rr)
                (first
                  | (go_at_call 10; ((with_reducible refine (known_any _).mono ?_)); rintro e w11 ⟨rfl, b11⟩; have rr := rr.then_ b11)
                  | (go_at_call 11; ((with_reducible refine (HHD.out _ rr).mono ?_)); rintro e w11 ⟨rfl, b11⟩; have rr := rr.then_ b11)
                  | (go_at_call 18; ((with_reducible refine (HPT.out _ rr).mono ?_)); rintro e w11 ⟨rfl, b11⟩; have rr := rr.then_ b11)
                  | (go_at_call 22; have zz9 := mk1; ((with_reducible refine (HSB.out _ rr).mono ?_)); rintro e w11 ⟨rfl, b11⟩; have rr := rr.then_ b11)
                  | (go_at_call 22; ((with_reducible refine (HSC.out _ rr).mono ?_)); rintro e w11 ⟨rfl, b11⟩; have rr := rr.then_ b11; have mk1 := True.intro))
              clear p4 p5 p6 p7
              all_goals
                go_wp2_with fail
                go_ret
                exact ⟨rfl, fr.then_ rr⟩
end Go.Proofs.Ytdbffjipoiphpaa
