/-
  The law's own word 'raised', walked.
-/
import Derived.Test.YtdbffjipoiphpaaT20
import Derived.Test.YtdbffjipoiphpaaT23
import Derived.WalkLawsBesides
namespace Go.Proofs.Ytdbffjipoiphpaa
open Go.RowKit

/-- Two rows of integers of the call's own, apart. -/
structure Two (w : World) (v u : Value) (xs ys : List Int) (W : World) : Prop where
  one : W.ownsRow w.heap.size 3 1 v xs.length (xs.map (Value.int .i64))
  two : W.ownsRow w.heap.size 3 1 u ys.length (ys.map (Value.int .i64))
  apart : ∀ k, v.ownBlock = some k → u.ownBlock = some k → False
  fr : Below w.heap.size w W
section
variable {w W W' : World} {v v' u : Value} {xs ys : List Int}
theorem Two.drew (h : Two w v u xs ys W) : Two w v u xs ys W.drew := ⟨h.one.drew, h.two.drew, h.apart, h.fr.drew⟩
theorem Two.alloc (h : Two w v u xs ys W) (o : Obj) : Two w v u xs ys (W.alloc o) := ⟨h.one.alloc o, h.two.alloc o, h.apart, h.fr.al o⟩
theorem Two.left (h : Two w v u xs ys W) {n : Nat} {x : Int} (hn : n = xs.length) (ho : W'.ownsRow w.heap.size 3 1 v' (n + 1) (xs.map (Value.int .i64) ++ [.int .i64 x])) (hg : W.grownBy W' v.ownBlock) (ha : v'.ownBlock = v.ownBlock ∨ v'.ownBlock = some W.heap.size) : Two w v' u (xs ++ [x]) ys W' := by
  subst hn
  refine ⟨by simpa using ho, h.two.kept hg ?_, fun k h1 h2 => ?_, h.fr.grown hg h.fr.size (fun k hk => (h.one.lt k hk).1)⟩
  · cases hu : u.ownBlock with
    | none => exact .inl rfl
    | some k => exact .inr (fun e => h.apart k e.symm hu)
  · rcases ha with ha | ha
    · exact h.apart k (ha ▸ h1) h2
    · rw [ha] at h1
      injection h1 with h1
      have := (h.two.lt k h2).2
      omega
theorem Two.swap (h : Two w v u xs ys W) : Two w u v ys xs W := ⟨h.two, h.one, fun k a b => h.apart k b a, h.fr⟩
end
theorem blk_second {w : World} {o1 : Obj} {t : TypeId} {c : Array Value} : Blk ((w.alloc o1).alloc (.cells c t)) (w.heap.size + 1) t c := by
  have := Blk.new (w.alloc o1) t c
  simpa using this
theorem Blk.reads1 {w : World} {g : Nat} {t : TypeId} {x : Int} (h : Blk w g t #[.int .i64 x]) : Reads w w.heap.size 1 (some ⟨g, 0, none⟩) 1 [.int .i64 x] :=
  ⟨by simp, fun _ => ⟨_, rfl, h.lt, fun j u hu => by
    rw [Addr.add_lit, Nat.zero_add, h.cell j]
    simpa using hu⟩⟩
theorem Two.far {w W W' : World} {v u : Value} {xs ys : List Int} {g : Nat} {t : TypeId} {c : Array Value} {W0 : World} (h : Two w v u xs ys W0) (hlt : W0.heap.size ≤ g) (hb : Blk W g t c) (hg : W.grownBy W' v.ownBlock) : Blk W' g t c :=
  (hg.block g hb.lt (fun e => by have := (h.one.lt g e.symm).2; omega)).trans hb

section
variable {w W w1 : World} {v u : Value} {xs ys : List Int} {o : Obj} {c : Array Value} {t : TypeId}
theorem Two.far1 (h : Two w v u xs ys W) (hg : ((W.alloc o).alloc (.cells c t)).grownBy w1 v.ownBlock) : Blk w1 (W.heap.size + 1) t c := h.far (by omega) blk_second hg
theorem Two.far1d (h : Two w v u xs ys W) (hg : ((W.alloc o).alloc (.cells c t)).drew.grownBy w1 v.ownBlock) : Blk w1 (W.heap.size + 1) t c := h.far (W := ((W.alloc o).alloc (.cells c t)).drew) (by omega) blk_second.drew hg
theorem Two.far2 (h : Two w v u xs ys W) (hg : ((W.alloc (.cells c t)).alloc o).grownBy w1 v.ownBlock) : Blk w1 W.heap.size t c := h.far (Nat.le_refl _) ((Blk.new _ _ _).alloc _) hg
theorem Two.far2d (h : Two w v u xs ys W) (hg : ((W.alloc (.cells c t)).alloc o).drew.grownBy w1 v.ownBlock) : Blk w1 W.heap.size t c := h.far (W := ((W.alloc (.cells c t)).alloc o).drew) (Nat.le_refl _) ((Blk.new _ _ _).alloc _).drew hg
end

/-- A bank that waits for a raise, its stakes and adds; or none. -/
def Raised (w : World) (s a : List Int) (e : Ending) (w' : World) : Prop := ∃ A c A' c' m, w.heap.size ≤ m ∧ m ≤ w'.heap.size ∧ Below w.heap.size w w' ∧ Reads w' m 1 A s.length (s.map (Value.int .i64)) ∧ Reads w' m 1 A' s.length (a.map (Value.int .i64)) ∧ s.length ≤ c ∧ s.length ≤ c' ∧
  ((¬ (RsOk s a ∧ 0 < a.sum) ∧ e = .returned (.tuple #[.pointer none, .slice A s.length c, .slice A' s.length c'])) ∨
   ((RsOk s a ∧ 0 < a.sum) ∧ ∃ S g gs cs wp, e = .returned (.tuple #[.pointer (some ⟨g, 0, none⟩), .slice A s.length c, .slice A' s.length c']) ∧ BAt w' S g gs cs wp (rsB s a) ∧ ∀ k, S k → m ≤ k))

theorem own_cap {w : World} {base n : Nat} {e : TypeId} {A : Option Addr} {m c : Nat} {xs : List Value} (h : w.ownsRow base e 1 (.slice A m c) n xs) : n ≤ c := by
  rcases h.2 with ⟨h1, h2⟩ | ⟨g, cap, cur, h1, _, _, h2, _⟩
  · omega
  · injection h1 with _ _ h3
    omega
theorem int_one (x : Int) : ∀ u ∈ [Value.int .i64 x], u.oneCell' = true := by
  intro u hu
  simp at hu
  subst hu
  rfl

set_option maxHeartbeats 4000000 in
set_option maxRecDepth 100000 in
theorem raised_any (A0 A1 : Option Addr) (n0 c0 n1 c1 : Nat) (xs ys : List Int) (w : World) (hx : RV w A0 n0 (xs.map (Value.int .u16))) (hy : RV w A1 n1 (ys.map (Value.int .u16))) (hxw : ∀ z ∈ xs, 0 ≤ z ∧ z ≤ 65535) (hyw : ∀ z ∈ ys, 0 ≤ z ∧ z ≤ 65535)
    (m : Nat) (hm : m = min (min n0 n1) 8) :
    Calls Try.prog 19 #[.slice A0 n0 c0, .slice A1 n1 c1] w (Raised w (xs.take m) (ys.take m)) := by
  obtain ⟨i0, hi0, hz0, hz1, hz2⟩ := info_parts info_int
  have hmn : min (min (n0 : Int) (n1 : Int)) 8 = (m : Int) := by omega
  have hm8 : m ≤ 8 := by omega
  have hm0 : m ≤ n0 := by omega
  have hm1 : m ≤ n1 := by omega
  have hxl : n0 = xs.length := by have := hx.len; simpa using this
  have hyl : n1 = ys.length := by have := hy.len; simpa using this
  have HX := Lib.hid hx
  have HY := Lib.hid hy
  have HXW := Lib.hid hxw
  have HYW := Lib.hid hyw
  have HXL := Lib.hid hxl
  have HYL := Lib.hid hyl
  clear hx hy hxw hyw hm hxl hyl
  go_enter Try.func19, Try.ntmps19
  go_upto_region 2 with fail
  go_cut [7, 8, 9, 17] (fun v v8 v9 _ wx => wx = w ∧ v = .int .i64 (m : Int) ∧ v8 = .slice none 0 0 ∧ v9 = .slice none 0 0)
  case first =>
    go_wp2_with fail
    all_goals
      go_meet
      case rel => exact ⟨rfl, congrArg (Value.int .i64) (by omega), rfl, rfl⟩
  case rest =>
    obtain ⟨hwc, rfl, rfl, rfl⟩ := hcut
    subst hwc
    clear hmn
    go_wp2_with fail
    go_loopw [8, 9, 10] (fun v u i wr => ∃ k : Nat, k ≤ m ∧ i = .int .i64 k ∧ Two wc v u (xs.take k) (ys.take k) wr) (fun _ _ i _ => m - (intOf i).toNat)
    case atStart => exact ⟨0, by omega, rfl, ⟨World.ownsRow_nil _ _ _ _, World.ownsRow_nil _ _ _ _, fun k h => (by cases h), Below.refl _ _⟩⟩
    case round =>
      obtain ⟨k, hk, rfl, tw⟩ := hrel
      by_cases hlt : k < m
      · obtain ⟨bx, ox, rfl, hbx, hlx, hcx⟩ := HX.out.at_ (k := k) (by omega)
        obtain ⟨by_, oy, rfl, hby, hly, hcy⟩ := HY.out.at_ (k := k) (by omega)
        have hlx' : k < xs.length := by simpa using hlx
        have hly' : k < ys.length := by simpa using hly
        have HTX : Hid (xs.take (k + 1) = xs.take k ++ [xs[k]]) := List.take_succ_eq_append_getElem hlx'
        have HTY : Hid (ys.take (k + 1) = ys.take k ++ [ys[k]]) := List.take_succ_eq_append_getElem hly'
        have hwx := HXW.out _ (List.getElem_mem hlx')
        have hwy := HYW.out _ (List.getElem_mem hly')
        have lx : (xs.take k).length = k := by simp; omega
        have ly : (ys.take k).length = k := by simp; omega
        simp only [List.getElem_map] at hcx hcy
        generalize xs[k] = x at *
        generalize ys[k] = y at *
        have LX := Lib.hid lx
        have LY := Lib.hid ly
        have lx8 : (xs.take k).length ≤ 8 := by omega
        have ly8 : (ys.take k).length ≤ 8 := by omega
        clear lx ly hlx hly hlx' hly'
        generalize xs.take k = px at *
        generalize ys.take k = py at *
        obtain ⟨hx0, hx1⟩ := hwx
        obtain ⟨hy0, hy1⟩ := hwy
        have g1 : (0 : Int) ≤ (k : Int) := by omega
        have g2 : (k : Int) < (n0 : Int) := by omega
        have g3 : (k : Int) < (n1 : Int) := by omega
        have cvx : IntKind.i64.wrap x = x := IntWalk.i64_in _ (by omega)
        have cvy : IntKind.i64.wrap y = y := IntWalk.i64_in _ (by omega)
        have keepx : ∀ W, Below wc.heap.size wc W → W.cell? ⟨bx, ox + k, none⟩ = some (.int .u16 x) ∧ W.cell? ⟨by_, oy + k, none⟩ = some (.int .u16 y) := fun W hW => ⟨(hW.cell (p := ⟨bx, ox + k, none⟩) hbx).trans hcx, (hW.cell (p := ⟨by_, oy + k, none⟩) hby).trans hcy⟩
        have KX := Lib.hid keepx
        clear keepx hcx hcy
        go_wp2_with fail
        go_region_held3 (fun w' => w'.cell? ⟨bx, ox + k, none⟩ = some (.int .u16 x) ∧ w'.cell? ⟨by_, oy + k, none⟩ = some (.int .u16 y))
          (first | exact KX.out _ tw.drew.fr | exact KX.out _ (tw.alloc _).drew.fr | exact KX.out _ ((tw.alloc _).alloc _).drew.fr | exact KX.out _ tw.fr | exact KX.out _ (tw.alloc _).fr | exact KX.out _ ((tw.alloc _).alloc _).fr)
          (first
          | (refine step_append_any _ (by rfl) (.tmp 23) (.tmp 29) _ (by rfl) wc.heap.size 3 i0 _ 1 8 Try.underlying22 hi0 hz0 hz1 hz2 rfl (by omega) _ px.length (px.map (Value.int .i64)) (by rfl) (Two.one (by first | exact (tw.alloc _).drew | exact ((tw.alloc _).alloc _).drew | exact tw.alloc _ | exact (tw.alloc _).alloc _ | exact tw)) _ (some ⟨_, 0, none⟩) 1 1 [.int .i64 x] (by rfl) (Blk.reads1 (t := 3) (by first | exact (Blk.new _ _ _).drew | exact ((Blk.new _ _ _).alloc _).drew | exact blk_second.drew | exact Blk.new _ _ _ | exact (Blk.new _ _ _).alloc _ | exact blk_second | exact ob)) (int_one x) (by unfold maxLen; omega) (by omega) (Two.fr (by first | exact (tw.alloc _).drew | exact ((tw.alloc _).alloc _).drew | exact tw.alloc _ | exact (tw.alloc _).alloc _ | exact tw)).size ?_; intro v1 w1 own1 gr1 at1; (try (have ob := Two.far1d (c := #[.int .i64 y]) tw gr1)); (try (have ob := Two.far2d (c := #[.int .i64 y]) tw gr1)); (try (have ob := Two.far1 (c := #[.int .i64 y]) tw gr1)); (try (have ob := Two.far2 (c := #[.int .i64 y]) tw gr1)); have tw := (Two.left ((by first | exact (tw.alloc _).drew | exact ((tw.alloc _).alloc _).drew | exact tw.alloc _ | exact (tw.alloc _).alloc _ | exact tw)) rfl own1 gr1 at1))
          | (refine step_append_any _ (by rfl) (.tmp 31) (.tmp 37) _ (by rfl) wc.heap.size 3 i0 _ 1 8 Try.underlying22 hi0 hz0 hz1 hz2 rfl (by omega) _ py.length (py.map (Value.int .i64)) (by rfl) (Two.two (by first | exact (tw.alloc _).drew | exact ((tw.alloc _).alloc _).drew | exact tw.alloc _ | exact (tw.alloc _).alloc _ | exact tw)) _ (some ⟨_, 0, none⟩) 1 1 [.int .i64 y] (by rfl) (Blk.reads1 (t := 3) (by first | exact (Blk.new _ _ _).drew | exact ((Blk.new _ _ _).alloc _).drew | exact blk_second.drew | exact Blk.new _ _ _ | exact (Blk.new _ _ _).alloc _ | exact blk_second | exact ob)) (int_one y) (by unfold maxLen; omega) (by omega) (Two.fr (by first | exact (tw.alloc _).drew | exact ((tw.alloc _).alloc _).drew | exact tw.alloc _ | exact (tw.alloc _).alloc _ | exact tw)).size ?_; intro v2 w2 own2 gr2 at2; (try (have ob := Two.far1d (c := #[.int .i64 x]) tw.swap gr2)); (try (have ob := Two.far2d (c := #[.int .i64 x]) tw.swap gr2)); (try (have ob := Two.far1 (c := #[.int .i64 x]) tw.swap gr2)); (try (have ob := Two.far2 (c := #[.int .i64 x]) tw.swap gr2)); have tw := (Two.left (Two.swap (by first | exact (tw.alloc _).drew | exact ((tw.alloc _).alloc _).drew | exact tw.alloc _ | exact (tw.alloc _).alloc _ | exact tw)) rfl own2 gr2 at2).swap))
        all_goals
          go_wp2_with fail
          go_roundw
          case rel => exact ⟨k + 1, by omega, by go_num, by rw [HTX.out, HTY.out]; exact tw⟩
          case measure => simp [intOf]; omega
      · obtain rfl : k = m := by omega
        have hsl : (xs.take k).length = k := by simp; have := HXL.out; omega
        have hal : (ys.take k).length = (xs.take k).length := by simp; have := HXL.out; have := HYL.out; omega
        have hsw : ∀ z ∈ xs.take k, 0 ≤ z ∧ z ≤ 65535 := fun z hz => HXW.out z (List.mem_of_mem_take hz)
        have haw : ∀ z ∈ ys.take k, 0 ≤ z ∧ z ≤ 65535 := fun z hz => HYW.out z (List.mem_of_mem_take hz)
        have two' := tw.two
        rw [hal] at two'
        have one' := tw.one
        have fr := tw.fr
        clear tw HX HY HXW HYW HXL HYL
        generalize xs.take k = s at *
        generalize ys.take k = a at *
        obtain ⟨A, c, rfl⟩ := own_slice one'
        obtain ⟨A', c', rfl⟩ := own_slice two'
        have r1 := Reads.of_own one'
        have r2 := Reads.of_own two'
        have hc1 : s.length ≤ c := own_cap one'
        have hc2 : s.length ≤ c' := own_cap two'
        have hs8 : s.length ≤ 8 := by omega
        clear one' two'
        have HAL := Lib.hid hal
        have HSL := Lib.hid hsl
        have HSW := Lib.hid hsw
        have HAW := Lib.hid haw
        clear hal hsl hsw haw
        by_cases h2 : 2 ≤ s.length
        · have HOK : Hid (RsOk s a) := ⟨HAL.out, h2, hs8, HSW.out, HAW.out⟩
          go_wp2_with fail
          refine (new_yes _ _ _ s _ r1 (rs_new h2 hs8 HSW.out)).mono ?_
          rintro e w1 ⟨S, g, gs, cs, rfl, B1, hS, b1⟩
          have q1 := Reads.below r1 b1
          have q2 := Reads.below r2 b1
          have f1 := fr.then_ b1
          have HS := Lib.hid hS
          have z1 := b1.size
          clear hS b1 r1 r2
          have ri2 : RI w1 A' s.length a := q2.more z1
          by_cases hp : 0 < a.sum
          · have HE : Hid (askE ⟨s, -1, none⟩ 50 5 a 100 = 0) := rs_yes HOK.out hp
            go_wp2_with fail
            refine (ask_yes S g gs cs none ⟨s, -1, none⟩ 50 0 0 0 0 0 0 0 0 5 100 A' _ c' a _ B1 ri2 (by omega) HE.out).mono ?_
            rintro e w2 ⟨rfl, S2, wp2, B2, k2, hS2⟩
            have kb : Below wr.heap.size w1 w2 := k2.to_below z1 (fun q hq h => by have := HS.out q h; omega)
            have fin : Below wc.heap.size wc w2 := f1.trans (kb.mono fr.size)
            have q1' := Reads.below q1 kb
            have q2' := Reads.below q2 kb
            have HS2 : Hid (∀ q, S2 q → wr.heap.size ≤ q) := fun q hq => by
              rcases hS2 q hq with h | h
              · exact HS.out q h
              · omega
            have zk := k2.size
            clear q1 q2 kb k2 hS2 f1 B1 ri2
            go_wp2_with fail
            go_ret3
            exact ⟨A, c, A', c', wr.heap.size, fr.size, by omega, fin, q1', q2', hc1, hc2, .inr ⟨⟨HOK.out, hp⟩, S2, g, gs, cs, wp2, rfl, B2, HS2.out⟩⟩
          · have HE : Hid (askE ⟨s, -1, none⟩ 50 5 a 100 = 1) := rs_no HOK.out hp
            have hne : askE ⟨s, -1, none⟩ 50 5 a 100 ≠ 0 := by rw [HE.out]; omega
            have HN := Lib.hid hne
            clear hne
            go_wp2_with fail
            refine (ask_no S g gs cs none ⟨s, -1, none⟩ 50 0 0 0 0 0 0 0 0 5 100 A' _ c' a _ B1 ri2 (by omega) HN.out).mono ?_
            rintro e w2 ⟨rfl, b2⟩
            rw [HE.out]
            have z2 := b2.size
            go_wp2_with fail
            go_ret3
            exact ⟨A, c, A', c', wr.heap.size, fr.size, by omega, f1.then_ b2, Reads.below q1 (b2.mono z1), Reads.below q2 (b2.mono z1), hc1, hc2, .inl ⟨fun h => by have := h.2; omega, rfl⟩⟩
        · go_wp2_with fail
          refine (new_no _ _ _ s _ r1 (by omega) (rs_notnew (by omega))).mono ?_
          rintro e w1 ⟨z, rfl, rfl⟩
          go_wp2_with fail
          go_ret3
          exact ⟨A, c, A', c', wr.heap.size, fr.size, Nat.le_refl _, fr, r1, r2, hc1, hc2, .inl ⟨fun h => h2 h.1.two, rfl⟩⟩
end Go.Proofs.Ytdbffjipoiphpaa
