
/-
  syntax.Expression: what it answers.
-/
import Derived.Test.YtdmlnoeneoomfaaDoorS9
namespace Go.Proofs.YtdmlnoeneoomfaaDoor
open Go.RowKit

def ExOut (b : Nat) (o : Out) (cs : List Value) (L C E : Int) (w' : World) : Prop := match o with
  | .ok x => E = 0 ∧ L = 0 ∧ C = 0 ∧ TE (fun z => b ≤ z) w' x cs
  | .bad L' C' E' => L = L' ∧ C = C' ∧ E = E' ∧ E ≠ 0 ∧ cs = [.int .i64 0, .int .i64 0, .string ⟨#[]⟩, .slice none 0 0]
def ExprTo (w : World) (o : Out) (e : Ending) (w' : World) : Prop :=
  ∃ (op N : Int) (nm : ByteArray) (B : Option Addr) (l k : Nat) (L C E : Int), e = .returned (.tuple #[.agg #[.int .i64 op, .int .i64 N, .string nm, .slice B l k], .agg #[.int .i64 L, .int .i64 C], .int .i64 E]) ∧ Below w.heap.size w w' ∧
    ExOut w.heap.size o [.int .i64 op, .int .i64 N, .string nm, .slice B l k] L C E w'
theorem ExOut.kept {b : Nat} {o : Out} {cs : List Value} {L C E : Int} {w w' : World} {S : Nat → Prop} (h : ExOut b o cs L C E w) (hk : Kept S w w') (hs : ∀ k, k < w.heap.size → b ≤ k → ¬ S k) : ExOut b o cs L C E w' := by
  cases o with
  | ok x => exact ⟨h.1, h.2.1, h.2.2.1, h.2.2.2.kept_lt hk hs⟩
  | bad L C E => exact h
theorem three_new (w : World) (t1 t2 t3 : TypeId) (a b d : Array Value) : Blk (((w.alloc (.cells a t1)).alloc (.cells b t2)).alloc (.cells d t3)) w.heap.size t1 a ∧ Blk (((w.alloc (.cells a t1)).alloc (.cells b t2)).alloc (.cells d t3)) (w.heap.size + 1) t2 b ∧ Blk (((w.alloc (.cells a t1)).alloc (.cells b t2)).alloc (.cells d t3)) (w.heap.size + 2) t3 d := by
  obtain ⟨h1, h2⟩ := two_new w t1 t2 a b
  refine ⟨h1.alloc _, h2.alloc _, ?_⟩
  have := Blk.new ((w.alloc (.cells a t1)).alloc (.cells b t2)) t3 d
  rwa [show ((w.alloc (.cells a t1)).alloc (.cells b t2)).heap.size = w.heap.size + 2 from by simp] at this
set_option maxHeartbeats 4000000 in
set_option maxRecDepth 100000 in
theorem Expression_any (s : ByteArray) (w : World) (hT : Spaces w) (hs : s.size ≤ 65536) :
    Calls Tryd.prog 9 #[.string s] w (ExprTo w (exprO s.data.toList)) := by
  have f0 : Below w.heap.size w (((w.alloc (.cells #[.int .i64 0, .int .i64 0, .string ⟨#[]⟩, .slice none 0 0] 25)).alloc (.cells #[.int .i64 0, .int .i64 0] 27)).alloc (.cells #[.int .i64 0, .int .i64 0, .string ⟨#[]⟩, .slice none 0 0] 25)) := (((Below.refl _ w).al _).alloc (by simp) _).alloc (by simp; omega) _
  obtain ⟨x1, x2, x3⟩ := three_new w 25 27 25 #[.int .i64 0, .int .i64 0, .string ⟨#[]⟩, .slice none 0 0] #[.int .i64 0, .int .i64 0] #[.int .i64 0, .int .i64 0, .string ⟨#[]⟩, .slice none 0 0]
  have RD := Lib.hid (read_any s (w.heap.size + 2) _ (hT.below f0) hs x3)
  have F0 := Lib.hid f0
  have X1 := Lib.hid x1
  have X2 := Lib.hid x2
  have z0 : (((w.alloc (.cells #[.int .i64 0, .int .i64 0, .string ⟨#[]⟩, .slice none 0 0] 25)).alloc (.cells #[.int .i64 0, .int .i64 0] 27)).alloc (.cells #[.int .i64 0, .int .i64 0, .string ⟨#[]⟩, .slice none 0 0] 25)).heap.size = w.heap.size + 3 := by simp
  clear hT f0 x1 x2 x3
  generalize exprO s.data.toList = oo at *
  go_enter Tryd.func9, Tryd.ntmps9
  go_upto_region 2 with fail
  generalize ((w.alloc (.cells #[.int .i64 0, .int .i64 0, .string ⟨#[]⟩, .slice none 0 0] 25)).alloc (.cells #[.int .i64 0, .int .i64 0] 27)).alloc (.cells #[.int .i64 0, .int .i64 0, .string ⟨#[]⟩, .slice none 0 0] 25) = W0 at *
  go_wp2_with fail
  refine RD.out.mono ?_
  rintro e w1 ⟨L, C, E, rfl, k1, h1⟩
  have X1' := Lib.hid ((X1.out.kept k1 (by omega)).alloc (.cells #[.int .i64 L, .int .i64 C] 27))
  have X2' := Lib.hid ((X2.out.kept k1 (by omega)).alloc (.cells #[.int .i64 L, .int .i64 C] 27))
  have Y1 := Lib.hid (Blk.new w1 27 #[.int .i64 L, .int .i64 C])
  have z1 := k1.size
  have F1 := Lib.hid ((F0.out.trans (k1.to_below (B := w.heap.size) (by omega) (fun q hq e => by omega))).alloc (by omega) (.cells #[.int .i64 L, .int .i64 C] 27))
  have H1 := Lib.hid h1
  have K1 := Lib.hid ((Kept.refl (fun _ => False) w1).alloc (.cells #[.int .i64 L, .int .i64 C] 27))
  have z2 : (w1.alloc (.cells #[.int .i64 L, .int .i64 C] 27)).heap.size = w1.heap.size + 1 := by simp
  clear k1 h1 RD X1 X2
  by_cases hE : E = 0
  · subst hE
    cases oo with
    | bad L' C' E' => exact absurd H1.out.2.2.1 (by have := H1.out.2.2.2; exact absurd rfl this)
    | ok x =>
      obtain ⟨-, op, N, nm, B, l, k, hb, hT⟩ := H1.out
      have HB := Lib.hid (hb.kept K1.out (fun h => h))
      have HTE := Lib.hid (hT.kept_lt K1.out (fun _ _ _ h => h))
      clear hb hT H1
      go_upto_region 5 with fail
      generalize w1.alloc (.cells #[.int .i64 L, .int .i64 C] 27) = W2 at *
      have x1 := X1'.out
      have x2 := X2'.out
      have hb := HB.out
      have s0 : W2.cell? ⟨w.heap.size, 0, none⟩ = some (.int .i64 0) := x1.cell 0
      have s1 : W2.cell? ⟨w.heap.size, 1, none⟩ = some (.int .i64 0) := x1.cell 1
      have s2 : W2.cell? ⟨w.heap.size, 2, none⟩ = some (.string ⟨#[]⟩) := x1.cell 2
      have s3 : W2.cell? ⟨w.heap.size, 3, none⟩ = some (.slice none 0 0) := x1.cell 3
      have t0 := x1.frozen 0
      have t1 := x1.frozen 1
      have t2 := x1.frozen 2
      have t3 := x1.frozen 3
      have p0 : W2.cell? ⟨w.heap.size + 1, 0, none⟩ = some (.int .i64 0) := x2.cell 0
      have p1 : W2.cell? ⟨w.heap.size + 1, 1, none⟩ = some (.int .i64 0) := x2.cell 1
      have q0 := x2.frozen 0
      have q1 := x2.frozen 1
      have v0 : W2.cell? ⟨w.heap.size + 2, 0, none⟩ = some (.int .i64 op) := hb.cell 0
      have v1 : W2.cell? ⟨w.heap.size + 2, 1, none⟩ = some (.int .i64 N) := hb.cell 1
      have v2 : W2.cell? ⟨w.heap.size + 2, 2, none⟩ = some (.string nm) := hb.cell 2
      have v3 : W2.cell? ⟨w.heap.size + 2, 3, none⟩ = some (.slice B l k) := hb.cell 3
      go_wp2_with fail
      clear s0 s1 s2 s3 p0 p1 v0 v1 v2 v3
      have K9 := (Kept.put4 W2 w.heap.size (.int .i64 op) (.int .i64 N) (.string nm) (.slice B l k))
      have X9 := x1.put4 (.int .i64 op) (.int .i64 N) (.string nm) (.slice B l k)
      have Y9 := x2.kept K9 (by omega)
      generalize (((W2.setCell ⟨w.heap.size, 0, none⟩ (.int .i64 op)).setCell ⟨w.heap.size, 1, none⟩ (.int .i64 N)).setCell ⟨w.heap.size, 2, none⟩ (.string nm)).setCell ⟨w.heap.size, 3, none⟩ (.slice B l k) = W8 at *
      have K8 := Kept.put2 W8 (w.heap.size + 1) (.int .i64 0) (.int .i64 0)
      have X8 := X9.kept K8 (by omega)
      have Y8 := Y9.put2 (.int .i64 0) (.int .i64 0)
      generalize (W8.setCell ⟨w.heap.size + 1, 0, none⟩ (.int .i64 0)).setCell ⟨w.heap.size + 1, 1, none⟩ (.int .i64 0) = W9 at *
      have s0 : W9.cell? ⟨w.heap.size, 0, none⟩ = some (.int .i64 op) := X8.cell 0
      have s1 : W9.cell? ⟨w.heap.size, 1, none⟩ = some (.int .i64 N) := X8.cell 1
      have s2 : W9.cell? ⟨w.heap.size, 2, none⟩ = some (.string nm) := X8.cell 2
      have s3 : W9.cell? ⟨w.heap.size, 3, none⟩ = some (.slice B l k) := X8.cell 3
      have p0 : W9.cell? ⟨w.heap.size + 1, 0, none⟩ = some (.int .i64 0) := Y8.cell 0
      have p1 : W9.cell? ⟨w.heap.size + 1, 1, none⟩ = some (.int .i64 0) := Y8.cell 1
      have K89 : Kept (fun z => z = w.heap.size ∨ z = w.heap.size + 1) W2 W9 := (K9.mono (T := fun z => z = w.heap.size ∨ z = w.heap.size + 1) (fun _ _ e => .inl e)).then_ K8 (fun _ _ e => .inr e)
      refine bodyPost_ret (v := .tuple #[.agg #[.int .i64 op, .int .i64 N, .string nm, .slice B l k], .agg #[.int .i64 0, .int .i64 0], .int .i64 0]) (by simp [results, Tryd.results9, go_sem, s0, s1, s2, s3, p0, p1]) rfl ⟨_, _, _, _, _, _, _, _, _, rfl, F1.out.trans (K89.to_below (by omega) (fun q hq e => by rcases e with e | e <;> omega)), rfl, rfl, rfl, (HTE.out.kept_lt K89 (fun z _ hz e => by rcases e with e | e <;> omega)).mono (fun z _ hz => by omega)⟩
  · cases oo with
    | ok x => exact absurd H1.out.1 hE
    | bad L' C' E' =>
      obtain ⟨rfl, rfl, rfl, -⟩ := H1.out
      have hE' : (E == 0) = false := by simp [hE]
      clear H1
      go_upto_region 4 with fail
      generalize w1.alloc (.cells #[.int .i64 L, .int .i64 C] 27) = W2 at *
      have x1 := X1'.out
      have x2 := X2'.out
      have y1 := Y1.out
      have s0 : W2.cell? ⟨w.heap.size, 0, none⟩ = some (.int .i64 0) := x1.cell 0
      have s1 : W2.cell? ⟨w.heap.size, 1, none⟩ = some (.int .i64 0) := x1.cell 1
      have s2 : W2.cell? ⟨w.heap.size, 2, none⟩ = some (.string ⟨#[]⟩) := x1.cell 2
      have s3 : W2.cell? ⟨w.heap.size, 3, none⟩ = some (.slice none 0 0) := x1.cell 3
      have t0 := x1.frozen 0
      have t1 := x1.frozen 1
      have t2 := x1.frozen 2
      have t3 := x1.frozen 3
      have p0 : W2.cell? ⟨w.heap.size + 1, 0, none⟩ = some (.int .i64 0) := x2.cell 0
      have p1 : W2.cell? ⟨w.heap.size + 1, 1, none⟩ = some (.int .i64 0) := x2.cell 1
      have q0 := x2.frozen 0
      have q1 := x2.frozen 1
      have v0 : W2.cell? ⟨w1.heap.size, 0, none⟩ = some (.int .i64 L) := y1.cell 0
      have v1 : W2.cell? ⟨w1.heap.size, 1, none⟩ = some (.int .i64 C) := y1.cell 1
      go_region
      go_wp2_with fail
      clear s0 s1 s2 s3 p0 p1 v0 v1
      have K9 := (Kept.put4 W2 w.heap.size (.int .i64 0) (.int .i64 0) (.string ⟨#[]⟩) (.slice none 0 0))
      have X9 := x1.put4 (.int .i64 0) (.int .i64 0) (.string ⟨#[]⟩) (.slice none 0 0)
      have Y9 := x2.kept K9 (by omega)
      generalize (((W2.setCell ⟨w.heap.size, 0, none⟩ (.int .i64 0)).setCell ⟨w.heap.size, 1, none⟩ (.int .i64 0)).setCell ⟨w.heap.size, 2, none⟩ (.string ⟨#[]⟩)).setCell ⟨w.heap.size, 3, none⟩ (.slice none 0 0) = W8 at *
      have K8 := (Kept.put2 W8 (w.heap.size + 1) (.int .i64 L) (.int .i64 C)).drew
      have X8 := X9.kept K8 (by omega)
      have Y8 := (Y9.put2 (.int .i64 L) (.int .i64 C)).drew
      generalize ((W8.setCell ⟨w.heap.size + 1, 0, none⟩ (.int .i64 L)).setCell ⟨w.heap.size + 1, 1, none⟩ (.int .i64 C)).drew = W9 at *
      have s0 : W9.cell? ⟨w.heap.size, 0, none⟩ = some (.int .i64 0) := X8.cell 0
      have s1 : W9.cell? ⟨w.heap.size, 1, none⟩ = some (.int .i64 0) := X8.cell 1
      have s2 : W9.cell? ⟨w.heap.size, 2, none⟩ = some (.string ⟨#[]⟩) := X8.cell 2
      have s3 : W9.cell? ⟨w.heap.size, 3, none⟩ = some (.slice none 0 0) := X8.cell 3
      have p0 : W9.cell? ⟨w.heap.size + 1, 0, none⟩ = some (.int .i64 L) := Y8.cell 0
      have p1 : W9.cell? ⟨w.heap.size + 1, 1, none⟩ = some (.int .i64 C) := Y8.cell 1
      have K89 : Kept (fun z => z = w.heap.size ∨ z = w.heap.size + 1) W2 W9 := (K9.mono (T := fun z => z = w.heap.size ∨ z = w.heap.size + 1) (fun _ _ e => .inl e)).then_ K8 (fun _ _ e => .inr e)
      refine bodyPost_ret (v := .tuple #[.agg #[.int .i64 0, .int .i64 0, .string ⟨#[]⟩, .slice none 0 0], .agg #[.int .i64 L, .int .i64 C], .int .i64 E]) (by simp [results, Tryd.results9, go_sem, s0, s1, s2, s3, p0, p1]) rfl ⟨_, _, _, _, _, _, _, _, _, rfl, F1.out.trans (K89.to_below (by omega) (fun q hq e => by rcases e with e | e <;> omega)), rfl, rfl, rfl, hE, rfl⟩
end Go.Proofs.YtdmlnoeneoomfaaDoor
