/-
  package topup: Ask, what it asks.
-/
import Derived.Test.YtdbffjipoiphpaaT10
namespace Go.Proofs.Ytdbffjipoiphpaa
open Go.RowKit

/-- What Ask answers. -/
def askL (b : Bk) (h num : Int) (adds : List Int) (till : Int) : List Int := [un (hts h num till) 2, un (decide (adds.length = b.stakes.length)) 3, un (totR 0 adds).2 2, un (freeB b h) 10, un (decide (b.last < num)) 18, un (decide (h ≤ till)) 19, un (decide (0 < (totR 0 adds).1)) 1, un (rightB (b.stakes.sum + (totR 0 adds).1)) 22]
def askE (b : Bk) (h num : Int) (adds : List Int) (till : Int) : Int := firstOf (askL b h num adds till)

theorem runA2 (args : Array Value) (W : World) : (callFunc 36 args).run Try.prog W = .ok (.enter 36 args) W := run_call_plain Try.func36 (by kernel_rfl) (by kernel_rfl) args W
theorem runA3 (args : Array Value) (W : World) : (callFunc 39 args).run Try.prog W = .ok (.enter 39 args) W := run_call_plain Try.func39 (by kernel_rfl) (by kernel_rfl) args W
theorem runA4 (args : Array Value) (W : World) : (callFunc 40 args).run Try.prog W = .ok (.enter 40 args) W := run_call_plain Try.func40 (by kernel_rfl) (by kernel_rfl) args W
theorem runA5 (args : Array Value) (W : World) : (callFunc 41 args).run Try.prog W = .ok (.enter 41 args) W := run_call_plain Try.func41 (by kernel_rfl) (by kernel_rfl) args W
theorem runA6 (args : Array Value) (W : World) : (callFunc 42 args).run Try.prog W = .ok (.enter 42 args) W := run_call_plain Try.func42 (by kernel_rfl) (by kernel_rfl) args W
theorem runA7 (args : Array Value) (W : World) : (callFunc 43 args).run Try.prog W = .ok (.enter 43 args) W := run_call_plain Try.func43 (by kernel_rfl) (by kernel_rfl) args W
theorem runA8 (args : Array Value) (W : World) : (callFunc 44 args).run Try.prog W = .ok (.enter 44 args) W := run_call_plain Try.func44 (by kernel_rfl) (by kernel_rfl) args W
theorem runA9 (args : Array Value) (W : World) : (callFunc 45 args).run Try.prog W = .ok (.enter 45 args) W := run_call_plain Try.func45 (by kernel_rfl) (by kernel_rfl) args W

/-- The functions that Ask asks, as values. -/
abbrev askF (g3 g4 g5 g7 g8 g9 : Nat) : List (FuncId × Array Value) := [(36, #[.pointer (some ⟨g4, 0, none⟩), .pointer (some ⟨g5, 0, none⟩)]), (39, #[.pointer (some ⟨g5, 0, none⟩), .pointer (some ⟨g3, 0, none⟩)]), (40, #[.pointer (some ⟨g8, 0, none⟩)]), (41, #[.pointer (some ⟨g9, 0, none⟩)]), (42, #[.pointer (some ⟨g5, 0, none⟩), .pointer (some ⟨g3, 0, none⟩)]), (43, #[.pointer (some ⟨g5, 0, none⟩), .pointer (some ⟨g4, 0, none⟩)]), (44, #[.pointer (some ⟨g7, 0, none⟩)]), (45, #[.pointer (some ⟨g3, 0, none⟩), .pointer (some ⟨g7, 0, none⟩)])]

theorem totR_range (xs : List Int) (hn : xs.length ≤ 16) : ∀ a, 0 ≤ a → a ≤ (totR a xs).1 ∧ (totR a xs).1 ≤ a + xs.length * 1125899906842624 := by
  induction xs with
  | nil => intro a _; simp [totR]
  | cons x xs ih =>
    intro a ha
    rw [totR]
    split
    · rename_i hx
      have h1 := rightB_iff.1 hx
      have h2 := ih (by simp at hn; omega) (a + x) (by omega)
      simp only [List.length_cons]
      omega
    · simp only [List.length_cons]
      omega

/-- Ask's asking. -/
theorem askAsk (S : Nat → Prop) (g gs cs : Nat) (wp : Option Addr) (b : Bk) (h num till : Int) (A : Option Addr) (n c : Nat) (adds : List Int) (g3 g4 g5 g7 g8 g9 g10 : Nat) (R : Array Value) (w : World) (hB : BAt w S g gs cs wp b) (hl : n = adds.length) (hn : n ≤ 16)
    (p3 : Blk w g3 24 #[.pointer (some ⟨g, 0, none⟩)]) (p4 : Blk w g4 3 #[.int .i64 h]) (p5 : Blk w g5 33 R) (r8 : R[8]? = some (.int .i64 num)) (r9 : R[9]? = some (.slice A n c)) (r10 : R[10]? = some (.int .i64 till))
    (p7 : Blk w g7 3 #[.int .i64 (totR 0 adds).1]) (p8 : Blk w g8 4 #[.bool (totR 0 adds).2]) (p9 : Blk w g9 28 #[.func (.func 33) #[] #[.pointer (some ⟨g3, 0, none⟩), .pointer (some ⟨g4, 0, none⟩)]])
    (p10 : Blk w g10 81 ((askF g3 g4 g5 g7 g8 g9).map fun f => Value.func (.func f.1) #[] f.2).toArray) :
    Calls Try.prog 35 #[.slice (some ⟨g10, 0, none⟩) 8 8] w fun e w' => e = .returned (.int .i64 (askE b h num adds till)) ∧ Below w.heap.size w w' := by
  refine first_any (askF g3 g4 g5 g7 g8 g9) (askL b h num adds till) g10 8 8 81 (Below w.heap.size w) w rfl rfl (by omega) (Below.refl _ _) (fun W hW => p10.below hW p10.lt) ?_ ?_
  · intro i hi W
    match i, hi with
    | 0, _ => exact runA2 _ W
    | 1, _ => exact runA3 _ W
    | 2, _ => exact runA4 _ W
    | 3, _ => exact runA5 _ W
    | 4, _ => exact runA6 _ W
    | 5, _ => exact runA7 _ W
    | 6, _ => exact runA8 _ W
    | 7, _ => exact runA9 _ W
  · intro i hi h2 hz W hW
    have hBW := hB.below hW
    have q3 : W.cell? ⟨g3, 0, none⟩ = some (.pointer (some ⟨g, 0, none⟩)) := (p3.below hW p3.lt).cell 0
    have q4 : W.cell? ⟨g4, 0, none⟩ = some (.int .i64 h) := (p4.below hW p4.lt).cell 0
    have q58 : W.cell? ⟨g5, 8, none⟩ = some (.int .i64 num) := ((p5.below hW p5.lt).cell 8).trans r8
    have q59 : W.cell? ⟨g5, 9, none⟩ = some (.slice A n c) := ((p5.below hW p5.lt).cell 9).trans r9
    have q510 : W.cell? ⟨g5, 10, none⟩ = some (.int .i64 till) := ((p5.below hW p5.lt).cell 10).trans r10
    have q7 : W.cell? ⟨g7, 0, none⟩ = some (.int .i64 (totR 0 adds).1) := (p7.below hW p7.lt).cell 0
    have q8 : W.cell? ⟨g8, 0, none⟩ = some (.bool (totR 0 adds).2) := (p8.below hW p8.lt).cell 0
    have q9 : W.cell? ⟨g9, 0, none⟩ = some (.func (.func 33) #[] #[.pointer (some ⟨g3, 0, none⟩), .pointer (some ⟨g4, 0, none⟩)]) := (p9.below hW p9.lt).cell 0
    have q0 : W.cell? ⟨g, 0, none⟩ = some (.slice (some ⟨gs, 0, none⟩) b.stakes.length cs) := hBW.blk.cell 0
    have q1 : W.cell? ⟨g, 1, none⟩ = some (.int .i64 b.last) := hBW.blk.cell 1
    have ht := totR_range adds (by omega) 0 (by omega)
    match i, hi with
    | 0, _ => exact (ask2_any g4 g5 h W num till q4 q58 q510).mono fun e w' ⟨he, hb⟩ => ⟨he, hW.then_ hb⟩
    | 1, _ =>
      have := ask3_any g g3 g5 W A (some ⟨gs, 0, none⟩) n c b.stakes.length cs q59 q3 q0
      rw [hl] at this
      exact this.mono fun e w' ⟨he, hb⟩ => ⟨he, hW.then_ hb⟩
    | 2, _ => exact (ask4_any g8 W (totR 0 adds).2 q8).mono fun e w' ⟨he, hb⟩ => ⟨he, hW.then_ hb⟩
    | 3, _ => exact (ask5_any S g gs cs g3 g4 g9 b h W wp hBW q3 q4 q9).mono fun e w' ⟨he, hb⟩ => ⟨he, hW.then_ hb⟩
    | 4, _ => exact (ask6_any g g3 g5 W num b.last q58 q3 q1).mono fun e w' ⟨he, hb⟩ => ⟨he, hW.then_ hb⟩
    | 5, _ => exact (ask7_any g4 g5 h W till q510 q4).mono fun e w' ⟨he, hb⟩ => ⟨he, hW.then_ hb⟩
    | 6, _ => exact (ask8_any g7 W (totR 0 adds).1 q7).mono fun e w' ⟨he, hb⟩ => ⟨he, hW.then_ hb⟩
    | 7, _ => exact (ask9_any S g gs cs g3 g7 b W wp (totR 0 adds).1 hBW ht.1 (by omega) q3 q7).mono fun e w' ⟨he, hb⟩ => ⟨he, hW.then_ hb⟩
end Go.Proofs.Ytdbffjipoiphpaa
