/-
  package topup: asked; what Put and Back ask.
-/
import Derived.Test.YtdbffjipoiphpaaT4
namespace Go.Proofs.Ytdbffjipoiphpaa
open Go.RowKit

/-- What is asked of a seat's part first. -/
def askedE (b : Bk) (h seat : Int) : Int := firstOf [un b.wt.isSome 9, seatE seat b.stakes.length, un (heightB h) 2]

theorem BAt.wp_isSome {w : World} {S : Nat → Prop} {g gs cs : Nat} {wp : Option Addr} {b : Bk} (h : BAt w S g gs cs wp b) : wp.isSome = b.wt.isSome := by
  cases hw : b.wt with
  | none => rw [h.none_ hw]; rfl
  | some x =>
    obtain ⟨gw, ga, ca, rfl, _⟩ := h.some_ x hw
    rfl

theorem run68 (args : Array Value) (W : World) : (callFunc 68 args).run Try.prog W = .ok (.enter 68 args) W := run_call_plain Try.func68 (by kernel_rfl) (by kernel_rfl) args W
theorem run69 (args : Array Value) (W : World) : (callFunc 69 args).run Try.prog W = .ok (.enter 69 args) W := run_call_plain Try.func69 (by kernel_rfl) (by kernel_rfl) args W
theorem run70 (args : Array Value) (W : World) : (callFunc 70 args).run Try.prog W = .ok (.enter 70 args) W := run_call_plain Try.func70 (by kernel_rfl) (by kernel_rfl) args W

/-- Four new blocks, one behind the other. -/
theorem blks4 {w w1 : World} {t0 t1 t2 t3 : TypeId} {c0 c1 c2 c3 : Array Value} (hb : Below ((((w.alloc (.cells c0 t0)).alloc (.cells c1 t1)).alloc (.cells c2 t2)).alloc (.cells c3 t3)).heap.size ((((w.alloc (.cells c0 t0)).alloc (.cells c1 t1)).alloc (.cells c2 t2)).alloc (.cells c3 t3)) w1) :
    Blk w1 w.heap.size t0 c0 ∧ Blk w1 (w.heap.size + 1) t1 c1 ∧ Blk w1 (w.heap.size + 1 + 1) t2 c2 ∧ Blk w1 (w.heap.size + 1 + 1 + 1) t3 c3 ∧ Below w.heap.size w w1 := by
  refine ⟨Blk.below ((((Blk.new w t0 c0).alloc _).alloc _).alloc _) hb (by simp <;> omega), ?_, ?_, ?_, (((((Below.refl _ w).al _).al _).al _).al _).then_ hb⟩
  · have := Blk.below (((Blk.new (w.alloc (.cells c0 t0)) t1 c1).alloc (.cells c2 t2)).alloc (.cells c3 t3)) hb (by simp <;> omega)
    simpa using this
  · have := Blk.below ((Blk.new ((w.alloc (.cells c0 t0)).alloc (.cells c1 t1)) t2 c2).alloc (.cells c3 t3)) hb (by simp)
    simpa using this
  · have := Blk.below (Blk.new (((w.alloc (.cells c0 t0)).alloc (.cells c1 t1)).alloc (.cells c2 t2)) t3 c3) hb (by simp)
    simpa using this

set_option maxHeartbeats 400000 in
set_option maxRecDepth 100000 in
theorem asked_any (S : Nat → Prop) (g gs cs : Nat) (wp : Option Addr) (b : Bk) (h seat : Int) (w : World) (hB : BAt w S g gs cs wp b) :
    Calls Try.prog 47 #[.pointer (some ⟨g, 0, none⟩), .int .i64 h, .int .i64 seat] w fun e w' => e = .returned (.int .i64 (askedE b h seat)) ∧ Below w.heap.size w w' := by
  have HB := Lib.hid hB
  go_enter Try.func47, Try.ntmps47
  go_wp2_with fail
  obtain ⟨p0, p1, p2, p3, f0⟩ := blks4 (Below.refl ((((w.alloc (.cells #[.pointer (some ⟨g, 0, none⟩)] 24)).alloc (.cells #[.int .i64 h] 3)).alloc (.cells #[.int .i64 seat] 3)).alloc (.cells #[.func (.func 68) #[] #[.pointer (some ⟨w.heap.size, 0, none⟩)], .func (.func 69) #[] #[.pointer (some ⟨w.heap.size + 1 + 1, 0, none⟩), .pointer (some ⟨w.heap.size, 0, none⟩)], .func (.func 70) #[] #[.pointer (some ⟨w.heap.size + 1, 0, none⟩)]] 81)).heap.size _)
  have hB1 := hB.below f0
  generalize ((((w.alloc (.cells #[.pointer (some ⟨g, 0, none⟩)] 24)).alloc (.cells #[.int .i64 h] 3)).alloc (.cells #[.int .i64 seat] 3)).alloc (.cells #[.func (.func 68) #[] #[.pointer (some ⟨w.heap.size, 0, none⟩)], .func (.func 69) #[] #[.pointer (some ⟨w.heap.size + 1 + 1, 0, none⟩), .pointer (some ⟨w.heap.size, 0, none⟩)], .func (.func 70) #[] #[.pointer (some ⟨w.heap.size + 1, 0, none⟩)]] 81)) = W0 at p0 p1 p2 p3 f0 hB1 ⊢
  refine (first_any [(68, #[.pointer (some ⟨w.heap.size, 0, none⟩)]), (69, #[.pointer (some ⟨w.heap.size + 1 + 1, 0, none⟩), .pointer (some ⟨w.heap.size, 0, none⟩)]), (70, #[.pointer (some ⟨w.heap.size + 1, 0, none⟩)])]
    [un b.wt.isSome 9, seatE seat b.stakes.length, un (heightB h) 2] (w.heap.size + 1 + 1 + 1) 3 3 81 (Below W0.heap.size W0) W0 rfl rfl (by omega) (Below.refl _ _) (fun W hW => p3.below hW p3.lt) ?_ ?_).mono ?_
  · intro i hi W
    match i, hi with
    | 0, _ => exact run68 _ W
    | 1, _ => exact run69 _ W
    | 2, _ => exact run70 _ W
  · intro i hi h2 _ W hW
    have hBW := hB1.below hW
    match i, hi with
    | 0, _ =>
      have := asked1_any w.heap.size g wp W ((p0.below hW p0.lt).cell 0) (hBW.blk.cell 2)
      rw [hB1.wp_isSome] at this
      exact this.mono fun e w' ⟨he, hb⟩ => ⟨he, hW.then_ hb⟩
    | 1, _ => exact (asked2_any w.heap.size g (w.heap.size + 1 + 1) b.stakes.length cs (some ⟨gs, 0, none⟩) seat W ((p0.below hW p0.lt).cell 0) ((p2.below hW p2.lt).cell 0) (hBW.blk.cell 0)).mono fun e w' ⟨he, hb⟩ => ⟨he, hW.then_ hb⟩
    | 2, _ => exact (asked3_any (w.heap.size + 1) h W ((p1.below hW p1.lt).cell 0)).mono fun e w' ⟨he, hb⟩ => ⟨he, hW.then_ hb⟩
  · rintro e w1 ⟨rfl, b1⟩
    go_wp2_with fail
    go_ret
    exact ⟨rfl, f0.then_ b1⟩
end Go.Proofs.Ytdbffjipoiphpaa
