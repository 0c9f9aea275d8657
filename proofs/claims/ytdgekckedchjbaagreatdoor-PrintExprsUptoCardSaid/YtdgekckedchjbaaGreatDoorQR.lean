
/-
  print.Print: a program's text, if it is read as that program. (Printed by wip/tools/genv22.py.) print.Expr: an expression's text, if it is read as that expression.
-/
import Derived.Test.YtdgekckedchjbaaGreatDoorV16
import Derived.Test.YtdgekckedchjbaaGreatDoorQP
import Derived.Test.YtdgekckedchjbaaGreatDoorQQ
import Derived.Test.YtdgekckedchjbaaGreatDoorQK
namespace Go.Proofs.YtdgekckedchjbaaGreatDoor
open Go.RowKit

def PrintTo (w : World) (p : Px) (e : Ending) (w' : World) : Prop := Below w.heap.size w w' ∧ ((∃ t, PrintIs p t ∧ e = .returned (.tuple #[.string (str t), .int .i64 0])) ∨ ((∀ t, ¬ PrintIs p t) ∧ e = .returned (.tuple #[.string ⟨#[]⟩, .int .i64 1])))
theorem PX.low {d base : Nat} {D : Nat → Prop} {w w' : World} {cs : List Value} {p : Px} (h : PX d D w cs p) (hb : Below w.heap.size w w') (hbase : w.heap.size ≤ base) : PX d (fun k => k < base) w' cs p :=
  PX_kept d D _ (fun _ => False) w w' cs p (Kept.of_below hb) (fun _ _ _ h => h) (fun _ hk _ => Nat.lt_of_lt_of_le hk hbase) h
theorem PX.stay {d : Nat} {D : Nat → Prop} {w w' : World} {cs : List Value} {p : Px} (h : PX d D w cs p) (hb : Below w.heap.size w w') : PX d D w' cs p :=
  PX_kept d D D (fun _ => False) w w' cs p (Kept.of_below hb) (fun _ _ _ h => h) (fun _ _ h => h) h
end Go.Proofs.YtdgekckedchjbaaGreatDoor
namespace Go.Proofs.YtdgekckedchjbaaGreatDoor
open Go.RowKit

/-- An expression's text, if it is read as that expression. -/
def ExprIs (x : Gx) (t : List UInt8) : Prop := rawE x = some t ∧ t.length ≤ 65536 ∧ ∃ y : Ex, exprO t = .ok y ∧ y.gx = x
theorem ExprIs.one {x : Gx} {t u : List UInt8} (h : ExprIs x t) (k : ExprIs x u) : t = u := Option.some.inj (h.1.symm.trans k.1)
def aroundX (x : Gx) : Px := ⟨[], 0, [], [], [.mk 0 [] [x] 0 0 [] []], [], [], [], [], [], []⟩
theorem aroundX_inj {x y : Gx} : aroundX x = aroundX y ↔ x = y := by
  constructor
  · intro h
    have := congrArg Px.start h
    simp only [aroundX, List.cons.injEq, and_true] at this
    injection this with _ _ this
    simpa using this
  · intro h
    rw [h]
def AroundTo (D : Nat → Prop) (w : World) (x : Gx) (e : Ending) (w' : World) : Prop :=
  ∃ b, e = .returned (.agg #[.string ⟨#[]⟩, .int .i64 0, .slice none 0 0, .slice none 0 0, .slice (some ⟨b, 0, none⟩) 1 1, .slice none 0 0, .slice none 0 0, .slice none 0 0, .string ⟨#[]⟩, .slice none 0 0, .slice none 0 0]) ∧ Below w.heap.size w w' ∧
    PX 16 (fun k => D k ∨ w.heap.size ≤ k) w' [.string ⟨#[]⟩, .int .i64 0, .slice none 0 0, .slice none 0 0, .slice (some ⟨b, 0, none⟩) 1 1, .slice none 0 0, .slice none 0 0, .slice none 0 0, .string ⟨#[]⟩, .slice none 0 0, .slice none 0 0] (aroundX x)
theorem RowD.nil_ {α : Type} (D : Nat → Prop) (s : Nat) (Q : Cel α) (w : World) : RowD D s Q w ([] : List α) (.slice none 0 0) := ⟨none, 0, 0, rfl, ElsG.none_ _ _ _ _ _ _⟩
/-- A row of one element in a new block. -/
theorem els_new {α : Type} {D : Nat → Prop} {w : World} {s M b : Nat} {t : TypeId} {Q : List Value → α → Prop} {cs : List Value} {x : α} (hM : 1 ≤ M) (hb : Blk w b t (List.toArray cs)) (hD : D b) (hl : cs.length = s) (h : Q cs x) : ElsG D w s M Q (some ⟨b, 0, none⟩) 1 [x] := by
  refine ⟨cs, ⟨by rw [hl, Nat.one_mul], fun _ => ⟨_, rfl, hb.lt, fun j u hu => ?_⟩⟩, fun _ a e => by injection e with e; subst e; exact hD, hM, rfl, fun i hi => ?_⟩
  · rw [Addr.add_lit, Nat.zero_add, hb.cell j]
    simpa using hu
  · obtain rfl : i = 0 := by simp at hi; exact hi
    subst hl
    simpa using h
set_option maxHeartbeats 4000000 in
set_option maxRecDepth 100000 in
theorem around_any (D : Nat → Prop) (n : Nat) (op N : Int) (nm : ByteArray) (A : Option Addr) (len cap : Nat) (x : Gx) (w : World) (hG : GC D w 2513169434843 n [.int .i64 op, .int .i64 N, .string nm, .slice A len cap] x) (hF : FitG n x) :
    Calls Tryz.prog 22 #[.agg #[.int .i64 op, .int .i64 N, .string nm, .slice A len cap]] w (AroundTo D w x) := by
  have HG := Lib.hid hG
  have HF := Lib.hid hF
  have z1 : (w.alloc (.cells #[.int .i64 op, .int .i64 N, .string nm, .slice A len cap] 40)).heap.size = w.heap.size + 1 := by simp
  have z2 : ((w.alloc (.cells #[.int .i64 op, .int .i64 N, .string nm, .slice A len cap] 40)).alloc (.cells #[.string ⟨#[]⟩, .int .i64 0, .slice none 0 0, .slice none 0 0, .slice (some ⟨w.heap.size + 1 + 1 + 1, 0, none⟩) 1 1, .slice none 0 0, .slice none 0 0, .slice none 0 0, .string ⟨#[]⟩, .slice none 0 0, .slice none 0 0] 48)).heap.size = w.heap.size + 1 + 1 := by simp
  have z3 : (((w.alloc (.cells #[.int .i64 op, .int .i64 N, .string nm, .slice A len cap] 40)).alloc (.cells #[.string ⟨#[]⟩, .int .i64 0, .slice none 0 0, .slice none 0 0, .slice (some ⟨w.heap.size + 1 + 1 + 1, 0, none⟩) 1 1, .slice none 0 0, .slice none 0 0, .slice none 0 0, .string ⟨#[]⟩, .slice none 0 0, .slice none 0 0] 48)).alloc (.cells #[.int .i64 op, .int .i64 N, .string nm, .slice A len cap] 40)).heap.size = w.heap.size + 1 + 1 + 1 := by simp
  have b1 : Blk ((((w.alloc (.cells #[.int .i64 op, .int .i64 N, .string nm, .slice A len cap] 40)).alloc (.cells #[.string ⟨#[]⟩, .int .i64 0, .slice none 0 0, .slice none 0 0, .slice (some ⟨w.heap.size + 1 + 1 + 1, 0, none⟩) 1 1, .slice none 0 0, .slice none 0 0, .slice none 0 0, .string ⟨#[]⟩, .slice none 0 0, .slice none 0 0] 48)).alloc (.cells #[.int .i64 op, .int .i64 N, .string nm, .slice A len cap] 40)).alloc (.cells #[.int .i64 0, .string ⟨#[]⟩, .slice (some ⟨w.heap.size + 1 + 1, 0, none⟩) 1 1, .int .i64 0, .int .i64 0, .slice none 0 0, .slice none 0 0] 95)) (w.heap.size + 1) 48 #[.string ⟨#[]⟩, .int .i64 0, .slice none 0 0, .slice none 0 0, .slice (some ⟨w.heap.size + 1 + 1 + 1, 0, none⟩) 1 1, .slice none 0 0, .slice none 0 0, .slice none 0 0, .string ⟨#[]⟩, .slice none 0 0, .slice none 0 0] := by
    have := ((Blk.new (w.alloc (.cells #[.int .i64 op, .int .i64 N, .string nm, .slice A len cap] 40)) 48 #[.string ⟨#[]⟩, .int .i64 0, .slice none 0 0, .slice none 0 0, .slice (some ⟨w.heap.size + 1 + 1 + 1, 0, none⟩) 1 1, .slice none 0 0, .slice none 0 0, .slice none 0 0, .string ⟨#[]⟩, .slice none 0 0, .slice none 0 0]).alloc (.cells #[.int .i64 op, .int .i64 N, .string nm, .slice A len cap] 40)).alloc (.cells #[.int .i64 0, .string ⟨#[]⟩, .slice (some ⟨w.heap.size + 1 + 1, 0, none⟩) 1 1, .int .i64 0, .int .i64 0, .slice none 0 0, .slice none 0 0] 95)
    rwa [z1] at this
  have b2 : Blk ((((w.alloc (.cells #[.int .i64 op, .int .i64 N, .string nm, .slice A len cap] 40)).alloc (.cells #[.string ⟨#[]⟩, .int .i64 0, .slice none 0 0, .slice none 0 0, .slice (some ⟨w.heap.size + 1 + 1 + 1, 0, none⟩) 1 1, .slice none 0 0, .slice none 0 0, .slice none 0 0, .string ⟨#[]⟩, .slice none 0 0, .slice none 0 0] 48)).alloc (.cells #[.int .i64 op, .int .i64 N, .string nm, .slice A len cap] 40)).alloc (.cells #[.int .i64 0, .string ⟨#[]⟩, .slice (some ⟨w.heap.size + 1 + 1, 0, none⟩) 1 1, .int .i64 0, .int .i64 0, .slice none 0 0, .slice none 0 0] 95)) (w.heap.size + 1 + 1) 40 #[.int .i64 op, .int .i64 N, .string nm, .slice A len cap] := by
    have := (Blk.new ((w.alloc (.cells #[.int .i64 op, .int .i64 N, .string nm, .slice A len cap] 40)).alloc (.cells #[.string ⟨#[]⟩, .int .i64 0, .slice none 0 0, .slice none 0 0, .slice (some ⟨w.heap.size + 1 + 1 + 1, 0, none⟩) 1 1, .slice none 0 0, .slice none 0 0, .slice none 0 0, .string ⟨#[]⟩, .slice none 0 0, .slice none 0 0] 48)) 40 #[.int .i64 op, .int .i64 N, .string nm, .slice A len cap]).alloc (.cells #[.int .i64 0, .string ⟨#[]⟩, .slice (some ⟨w.heap.size + 1 + 1, 0, none⟩) 1 1, .int .i64 0, .int .i64 0, .slice none 0 0, .slice none 0 0] 95)
    rwa [z2] at this
  have b3 : Blk ((((w.alloc (.cells #[.int .i64 op, .int .i64 N, .string nm, .slice A len cap] 40)).alloc (.cells #[.string ⟨#[]⟩, .int .i64 0, .slice none 0 0, .slice none 0 0, .slice (some ⟨w.heap.size + 1 + 1 + 1, 0, none⟩) 1 1, .slice none 0 0, .slice none 0 0, .slice none 0 0, .string ⟨#[]⟩, .slice none 0 0, .slice none 0 0] 48)).alloc (.cells #[.int .i64 op, .int .i64 N, .string nm, .slice A len cap] 40)).alloc (.cells #[.int .i64 0, .string ⟨#[]⟩, .slice (some ⟨w.heap.size + 1 + 1, 0, none⟩) 1 1, .int .i64 0, .int .i64 0, .slice none 0 0, .slice none 0 0] 95)) (w.heap.size + 1 + 1 + 1) 95 #[.int .i64 0, .string ⟨#[]⟩, .slice (some ⟨w.heap.size + 1 + 1, 0, none⟩) 1 1, .int .i64 0, .int .i64 0, .slice none 0 0, .slice none 0 0] := by
    have := Blk.new (((w.alloc (.cells #[.int .i64 op, .int .i64 N, .string nm, .slice A len cap] 40)).alloc (.cells #[.string ⟨#[]⟩, .int .i64 0, .slice none 0 0, .slice none 0 0, .slice (some ⟨w.heap.size + 1 + 1 + 1, 0, none⟩) 1 1, .slice none 0 0, .slice none 0 0, .slice none 0 0, .string ⟨#[]⟩, .slice none 0 0, .slice none 0 0] 48)).alloc (.cells #[.int .i64 op, .int .i64 N, .string nm, .slice A len cap] 40)) 95 #[.int .i64 0, .string ⟨#[]⟩, .slice (some ⟨w.heap.size + 1 + 1, 0, none⟩) 1 1, .int .i64 0, .int .i64 0, .slice none 0 0, .slice none 0 0]
    rwa [z3] at this
  have f4 : Below w.heap.size w ((((w.alloc (.cells #[.int .i64 op, .int .i64 N, .string nm, .slice A len cap] 40)).alloc (.cells #[.string ⟨#[]⟩, .int .i64 0, .slice none 0 0, .slice none 0 0, .slice (some ⟨w.heap.size + 1 + 1 + 1, 0, none⟩) 1 1, .slice none 0 0, .slice none 0 0, .slice none 0 0, .string ⟨#[]⟩, .slice none 0 0, .slice none 0 0] 48)).alloc (.cells #[.int .i64 op, .int .i64 N, .string nm, .slice A len cap] 40)).alloc (.cells #[.int .i64 0, .string ⟨#[]⟩, .slice (some ⟨w.heap.size + 1 + 1, 0, none⟩) 1 1, .int .i64 0, .int .i64 0, .slice none 0 0, .slice none 0 0] 95)) := ((((Below.refl _ w).al _).al _).al _).al _
  have B1 := Lib.hid b1
  have B2 := Lib.hid b2
  have B3 := Lib.hid b3
  have F4 := Lib.hid f4
  clear hG hF z1 z2 z3 b1 b2 b3 f4
  go_enter Tryz.func22, Tryz.ntmps22
  go_wp2_with fail
  generalize ((((w.alloc (.cells #[.int .i64 op, .int .i64 N, .string nm, .slice A len cap] 40)).alloc (.cells #[.string ⟨#[]⟩, .int .i64 0, .slice none 0 0, .slice none 0 0, .slice (some ⟨w.heap.size + 1 + 1 + 1, 0, none⟩) 1 1, .slice none 0 0, .slice none 0 0, .slice none 0 0, .string ⟨#[]⟩, .slice none 0 0, .slice none 0 0] 48)).alloc (.cells #[.int .i64 op, .int .i64 N, .string nm, .slice A len cap] 40)).alloc (.cells #[.int .i64 0, .string ⟨#[]⟩, .slice (some ⟨w.heap.size + 1 + 1, 0, none⟩) 1 1, .int .i64 0, .int .i64 0, .slice none 0 0, .slice none 0 0] 95)) = W at *
  have sc0 : W.cell? ⟨w.heap.size + 1, 0, none⟩ = some (.string ⟨#[]⟩) := B1.out.cell 0
  have sc1 : W.cell? ⟨w.heap.size + 1, 1, none⟩ = some (.int .i64 0) := B1.out.cell 1
  have sc2 : W.cell? ⟨w.heap.size + 1, 2, none⟩ = some (.slice none 0 0) := B1.out.cell 2
  have sc3 : W.cell? ⟨w.heap.size + 1, 3, none⟩ = some (.slice none 0 0) := B1.out.cell 3
  have sc4 : W.cell? ⟨w.heap.size + 1, 4, none⟩ = some (.slice (some ⟨w.heap.size + 1 + 1 + 1, 0, none⟩) 1 1) := B1.out.cell 4
  have sc5 : W.cell? ⟨w.heap.size + 1, 5, none⟩ = some (.slice none 0 0) := B1.out.cell 5
  have sc6 : W.cell? ⟨w.heap.size + 1, 6, none⟩ = some (.slice none 0 0) := B1.out.cell 6
  have sc7 : W.cell? ⟨w.heap.size + 1, 7, none⟩ = some (.slice none 0 0) := B1.out.cell 7
  have sc8 : W.cell? ⟨w.heap.size + 1, 8, none⟩ = some (.string ⟨#[]⟩) := B1.out.cell 8
  have sc9 : W.cell? ⟨w.heap.size + 1, 9, none⟩ = some (.slice none 0 0) := B1.out.cell 9
  have sc10 : W.cell? ⟨w.heap.size + 1, 10, none⟩ = some (.slice none 0 0) := B1.out.cell 10
  refine bodyPost_ret (v := .agg #[.string ⟨#[]⟩, .int .i64 0, .slice none 0 0, .slice none 0 0, .slice (some ⟨w.heap.size + 1 + 1 + 1, 0, none⟩) 1 1, .slice none 0 0, .slice none 0 0, .slice none 0 0, .string ⟨#[]⟩, .slice none 0 0, .slice none 0 0]) (by simp [results, Tryz.results22, go_sem, sc0, sc1, sc2, sc3, sc4, sc5, sc6, sc7, sc8, sc9, sc10]) rfl ⟨_, rfl, F4.out, ?_⟩
  have hx : GA (fun k => D k ∨ w.heap.size ≤ k) W [.int .i64 op, .int .i64 N, .string nm, .slice A len cap] x := ⟨n, GC.kept (Kept.of_below (S := fun _ => False) F4.out) (fun _ _ _ h => h) (fun _ _ h => .inl h) n _ _ HG.out, HF.out⟩
  refine ⟨⟨Nat.zero_le _, Nat.zero_le _, FitN.zero, by simp [aroundX], by simp [aroundX], by simp [aroundX]⟩, _, _, _, _, _, _, _, _, rfl, RowD.nil_ _ _ _ _, RowD.nil_ _ _ _ _, ⟨_, _, _, rfl, ?_⟩, RowD.nil_ _ _ _ _, RowD.nil_ _ _ _ _, RowD.nil_ _ _ _ _, RowD.nil_ _ _ _ _, RowD.nil_ _ _ _ _⟩
  refine els_new (cs := [.int .i64 0, .string ⟨#[]⟩, .slice (some ⟨w.heap.size + 1 + 1, 0, none⟩) 1 1, .int .i64 0, .int .i64 0, .slice none 0 0, .slice none 0 0]) (by omega) B3.out (.inr (by omega)) rfl ?_
  refine ⟨_, _, _, _, _, _, _, _, _, rfl, ⟨by decide, FitN.zero, FitN.zero⟩, ?_, ElsG.none_ _ _ _ _ _ _, ElsG.none_ _ _ _ _ _ _⟩
  exact els_new (by omega) B2.out (.inr (by omega)) rfl hx
theorem exprO_lex {l : List UInt8} {y : Ex} (h : exprO l = .ok y) : ∃ ts r, lexS l = .ok ts ∧ joinL (plainD 16) 5 ts = .ok y r ∧ (r = [] ∨ ∃ t r', r = t :: r' ∧ t.kind = 0) := by
  unfold exprO at h
  cases hl : lexS l with
  | err L C E => rw [hl] at h; cases h
  | ok ts =>
    rw [hl] at h
    simp only at h
    cases hp : joinL (plainD 16) 5 ts with
    | bad r e =>
      rw [hp] at h
      cases r <;> cases h
    | ok x r =>
      rw [hp] at h
      cases r with
      | nil =>
        injection h with h
        subst h
        exact ⟨ts, [], rfl, hp, .inl rfl⟩
      | cons t r =>
        simp only [endO] at h
        split at h
        · rename_i hk
          injection h with h
          subst h
          exact ⟨ts, _, rfl, hp, .inr ⟨t, r, rfl, hk⟩⟩
        · cases h
theorem exprO_ev {l : List UInt8} {y : Ex} (h : exprO l = .ok y) : EvE NameP NumP y := by
  obtain ⟨ts, r, h1, h2, _⟩ := exprO_lex h
  exact (joinL_ok (plainD_ok 16) 5 ts (lexS_tk h1) y r h2).1
def ExprTo' (w : World) (x : Gx) (e : Ending) (w' : World) : Prop := Below w.heap.size w w' ∧ ((∃ t, ExprIs x t ∧ e = .returned (.tuple #[.string (str t), .int .i64 0])) ∨ ((∀ t, ¬ ExprIs x t) ∧ e = .returned (.tuple #[.string ⟨#[]⟩, .int .i64 1])))
set_option maxHeartbeats 8000000 in
set_option maxRecDepth 100000 in
theorem Expr_any (base n : Nat) (D : Nat → Prop) (op N : Int) (nm : ByteArray) (A : Option Addr) (len cap : Nat) (x : Gx) (w : World) (hT : Tabs base w) (hb : base ≤ w.heap.size) (hG : GC D w 2513169434843 n [.int .i64 op, .int .i64 N, .string nm, .slice A len cap] x) (hF : FitG n x) :
    Calls Tryz.prog 11 #[.agg #[.int .i64 op, .int .i64 N, .string nm, .slice A len cap]] w (ExprTo' w x) := by
  have f0 : Below w.heap.size w (w.alloc (.cells #[.int .i64 op, .int .i64 N, .string nm, .slice A len cap] 40)) := (Below.refl _ w).al _
  have F0 := Lib.hid f0
  have X0 := Lib.hid (Blk.new w 40 #[.int .i64 op, .int .i64 N, .string nm, .slice A len cap])
  have G0 := Lib.hid (hG.below f0)
  have TB0 := Lib.hid (hT.below f0 hb)
  have hz : (w.alloc (.cells #[.int .i64 op, .int .i64 N, .string nm, .slice A len cap] 40)).heap.size = w.heap.size + 1 := by simp
  have HZ := Lib.hid hz
  have HB := Lib.hid hb
  have HF := Lib.hid hF
  clear f0 hT hG hz hb hF
  go_enter Tryz.func11, Tryz.ntmps11
  go_upto_region 1 with fail
  generalize w.alloc (.cells #[.int .i64 op, .int .i64 N, .string nm, .slice A len cap] 40) = W0 at *
  have f1 : Below W0.heap.size W0 (W0.alloc (.cells #[.pointer none, .slice none 0 0, .int .i64 ((65536 : Nat) : Int), .bool false] 68)) := (Below.refl _ W0).al _
  have hbb : base ≤ W0.heap.size := by have := HZ.out; have := HB.out; omega
  have N1 := Lib.hid (Wr.new W0.heap.size W0 65536 false (Nat.le_refl _) (by omega))
  have X1 := Lib.hid (X0.out.below f1 X0.out.lt)
  have G1 := Lib.hid (show GC (fun k => k < W0.heap.size) (W0.alloc (.cells #[.pointer none, .slice none 0 0, .int .i64 ((65536 : Nat) : Int), .bool false] 68)) 2513169434843 n [.int .i64 op, .int .i64 N, .string nm, .slice A len cap] x from GC.kept (Kept.of_below (S := fun _ => False) f1) (fun _ _ _ h => h) (fun _ hk _ => hk) n _ _ G0.out)
  have TB1 := Lib.hid ((TB0.out.below f1 hbb).more hbb)
  have F1 := Lib.hid (F0.out.trans (f1.mono F0.out.size))
  have HX := Lib.hid X0.out.lt
  clear f1 hbb X0 G0 TB0
  go_upto_region 2 with fail
  change Code.wp _ _ _ _ (W0.alloc (.cells #[.pointer none, .slice none 0 0, .int .i64 ((65536 : Nat) : Int), .bool false] 68))
  generalize W0.alloc (.cells #[.pointer none, .slice none 0 0, .int .i64 ((65536 : Nat) : Int), .bool false] 68) = W1 at *
  have s0 : W1.cell? ⟨w.heap.size, 0, none⟩ = some (.int .i64 op) := X1.out.cell 0
  have s1 : W1.cell? ⟨w.heap.size, 1, none⟩ = some (.int .i64 N) := X1.out.cell 1
  have s2 : W1.cell? ⟨w.heap.size, 2, none⟩ = some (.string nm) := X1.out.cell 2
  have s3 : W1.cell? ⟨w.heap.size, 3, none⟩ = some (.slice A len cap) := X1.out.cell 3
  have TX := Lib.hid (text_any W0.heap.size n W0.heap.size 65536 none [] false op N nm A len cap x W1 TB1.out N1.out G1.out HF.out)
  go_wp2_with fail
  refine TX.out.mono ?_
  rintro e w3 ⟨l2, b2, rfl, t2, r2, o2⟩
  have F3 := Lib.hid (t2.low N1.out)
  have R3 := Lib.hid r2
  have O2 := Lib.hid o2
  have hl2 := o2.len
  have Q3 := Lib.hid (r2.cells_).2.1
  have X3 := Lib.hid (X1.out.below F3.out (by have := HX.out; omega))
  have PA := Lib.hid (Expression_any (str l2) w3 ((TB1.out.low F3.out).sp) (by rw [str_size]; exact hl2))
  have G3 := Lib.hid (G1.out.low F3.out)
  have K3 : Hid (Below w.heap.size w w3) := F1.out.trans (F3.out.mono (by have := HZ.out; omega))
  have HW3 := Lib.hid (show W0.heap.size < w3.heap.size from r2.lt)
  rw [str_list] at PA
  obtain ⟨S, hS⟩ : ∃ y, y = str l2 := ⟨_, rfl⟩
  rw [← hS] at PA ⊢
  have HS := Lib.hid hS
  clear hS t2 r2 o2 TX s0 s1 s2 s3 X1 G1 TB1 N1
  go_wp2_with fail
  refine PA.out.mono ?_
  rintro e w4 ⟨op', N', nm', B', lb, cb, L, Cc, E, rfl, b4, h4⟩
  have F4 : Below w3.heap.size w3 ((w4.alloc (.cells #[.int .i64 op', .int .i64 N', .string nm', .slice B' lb cb] 40)).alloc (.cells #[.int .i64 L, .int .i64 Cc] 50)) := (b4.al _).al _
  obtain ⟨y0, _⟩ := two_new w4 40 50 #[.int .i64 op', .int .i64 N', .string nm', .slice B' lb cb] #[.int .i64 L, .int .i64 Cc]
  have Y4 := Lib.hid y0
  have X4 := Lib.hid (X3.out.below F4 X3.out.lt)
  have Q4 : Hid (((w4.alloc (.cells #[.int .i64 op', .int .i64 N', .string nm', .slice B' lb cb] 40)).alloc (.cells #[.int .i64 L, .int .i64 Cc] 50)).cell? ⟨W0.heap.size, 3, none⟩ = some (.bool b2)) := (F4.cell (p := ⟨W0.heap.size, 3, none⟩) HW3.out).trans Q3.out
  have G4 := Lib.hid (GC.below G3.out F4)
  have H4 := Lib.hid (h4.kept (S := fun _ => False) (((Kept.refl _ w4).alloc (.cells #[.int .i64 op', .int .i64 N', .string nm', .slice B' lb cb] 40)).alloc (.cells #[.int .i64 L, .int .i64 Cc] 50)) (fun _ _ _ h => h))
  have K4 := Lib.hid (K3.out.trans (F4.mono K3.out.size))
  clear b4 h4 y0 F4
  go_upto_region 4 with fail
  generalize (w4.alloc (.cells #[.int .i64 op', .int .i64 N', .string nm', .slice B' lb cb] 40)).alloc (.cells #[.int .i64 L, .int .i64 Cc] 50) = W4 at *
  have q3 := Q4.out
  have HNO : Hid (b2 = true → ∀ t, ¬ ExprIs x t) := fun e t ht => by
    rcases O2.out.ill e with e | e | ⟨u, e, hl⟩
    · cases e
    · rw [ht.1] at e; cases e
    · rw [ht.1] at e
      injection e with e
      subst e
      have := ht.2.1
      simp at hl
      omega
  cases b2 with
  | true =>
    go_quiet (fail)
    go_wp2_with fail
    go_ret2
    exact ⟨K4.out.trans (below_drewN (Below.refl _ _) _ |>.mono K4.out.size), .inr ⟨HNO.out (by simp), rfl⟩⟩
  | false =>
    have HY : Hid (rawE x = some l2) := by
      obtain ⟨_, t, h1, h2⟩ := O2.out.good rfl
      rw [List.nil_append] at h2
      rw [h1, h2]
      exact rfl
    have HN2 : Hid (∀ t, ExprIs x t → t = l2) := fun t ht => Option.some.inj (ht.1.symm.trans HY.out)
    generalize hoo : exprO l2 = oo at *
    have HO := Lib.hid hoo
    clear hoo
    cases oo with
    | bad L' C' E' =>
      obtain ⟨-, -, -, hE, -⟩ := H4.out
      have hE' : (E == 0) = false := by simp [hE]
      clear H4
      go_quiet (fail)
      go_wp2_with fail
      go_ret2
      refine ⟨K4.out.trans (below_drewN (Below.refl _ _) _ |>.mono K4.out.size), .inr ⟨fun t ht => ?_, rfl⟩⟩
      obtain rfl := HN2.out t ht
      obtain ⟨q, hq, _⟩ := ht.2.2
      rw [HO.out] at hq
      cases hq
    | ok q =>
      obtain ⟨hE, -, -, hte⟩ := H4.out
      subst hE
      have QG := Lib.hid (TE.gc (M := 2513169434843) (by omega) _ _ hte)
      have QF := Lib.hid (FitE.gx q (EvE_fit q (exprO_ev HO.out)))
      have FB : Hid (∀ W, Below W4.heap.size W4 W → W.cell? ⟨W0.heap.size, 3, none⟩ = some (.bool false) ∧ W.cell? ⟨w.heap.size, 0, none⟩ = some (.int .i64 op) ∧ W.cell? ⟨w.heap.size, 1, none⟩ = some (.int .i64 N) ∧ W.cell? ⟨w.heap.size, 2, none⟩ = some (.string nm) ∧ W.cell? ⟨w.heap.size, 3, none⟩ = some (.slice A len cap) ∧ W.cell? ⟨w4.heap.size, 0, none⟩ = some (.int .i64 op') ∧ W.cell? ⟨w4.heap.size, 1, none⟩ = some (.int .i64 N') ∧ W.cell? ⟨w4.heap.size, 2, none⟩ = some (.string nm') ∧ W.cell? ⟨w4.heap.size, 3, none⟩ = some (.slice B' lb cb)) := fun W hW => by
        have X := X4.out.below hW X4.out.lt
        have Y := Y4.out.below hW Y4.out.lt
        exact ⟨(hW.cell (p := ⟨W0.heap.size, 3, none⟩) (World.block_lt_of_cell? _ _ q3)).trans q3, X.cell 0, X.cell 1, X.cell 2, X.cell 3, Y.cell 0, Y.cell 1, Y.cell 2, Y.cell 3⟩
      have A1 := Lib.hid (fun W (hW : Below W4.heap.size W4 W) => around_any (fun k => k < W0.heap.size) n op N nm A len cap x W (G4.out.below hW) HF.out)
      have A2 := Lib.hid (fun W (hW : Below W4.heap.size W4 W) => around_any (fun z => w3.heap.size ≤ z) q.dep op' N' nm' B' lb cb q.gx W (QG.out.below hW) QF.out)
      have SM : Hid (∀ b1 b2 W, PX 16 (fun k => k < W0.heap.size ∨ W4.heap.size ≤ k) W [.string ⟨#[]⟩, .int .i64 0, .slice none 0 0, .slice none 0 0, .slice (some ⟨b1, 0, none⟩) 1 1, .slice none 0 0, .slice none 0 0, .slice none 0 0, .string ⟨#[]⟩, .slice none 0 0, .slice none 0 0] (aroundX x) → PX 16 (fun k => w3.heap.size ≤ k ∨ W4.heap.size ≤ k) W [.string ⟨#[]⟩, .int .i64 0, .slice none 0 0, .slice none 0 0, .slice (some ⟨b2, 0, none⟩) 1 1, .slice none 0 0, .slice none 0 0, .slice none 0 0, .string ⟨#[]⟩, .slice none 0 0, .slice none 0 0] (aroundX q.gx) → Calls Tryz.prog 18 #[.agg (List.toArray [.string ⟨#[]⟩, .int .i64 0, .slice none 0 0, .slice none 0 0, .slice (some ⟨b1, 0, none⟩) 1 1, .slice none 0 0, .slice none 0 0, .slice none 0 0, .string ⟨#[]⟩, .slice none 0 0, .slice none 0 0]), .agg (List.toArray [.string ⟨#[]⟩, .int .i64 0, .slice none 0 0, .slice none 0 0, .slice (some ⟨b2, 0, none⟩) 1 1, .slice none 0 0, .slice none 0 0, .slice none 0 0, .string ⟨#[]⟩, .slice none 0 0, .slice none 0 0])] W (EqTo W (aroundX x = aroundX q.gx))) := fun b1 b2 W h1 h2 =>
        Same_any 16 _ _ ⟨#[]⟩ ⟨#[]⟩ ⟨#[]⟩ ⟨#[]⟩ 0 0 none 0 0 none 0 0 (some ⟨b1, 0, none⟩) 1 1 none 0 0 none 0 0 none 0 0 none 0 0 none 0 0 none 0 0 none 0 0 (some ⟨b2, 0, none⟩) 1 1 none 0 0 none 0 0 none 0 0 none 0 0 none 0 0 _ _ W h1 h2
      have bb0 := Lib.hid ((Below.refl W4.heap.size W4).drew)
      have q0 := FB.out _ bb0.out
      clear H4 hte
      go_region_held3 (fun W => W.cell? ⟨W0.heap.size, 3, none⟩ = some (.bool false) ∧ W.cell? ⟨w.heap.size, 0, none⟩ = some (.int .i64 op) ∧ W.cell? ⟨w.heap.size, 1, none⟩ = some (.int .i64 N) ∧ W.cell? ⟨w.heap.size, 2, none⟩ = some (.string nm) ∧ W.cell? ⟨w.heap.size, 3, none⟩ = some (.slice A len cap) ∧ W.cell? ⟨w4.heap.size, 0, none⟩ = some (.int .i64 op') ∧ W.cell? ⟨w4.heap.size, 1, none⟩ = some (.int .i64 N') ∧ W.cell? ⟨w4.heap.size, 2, none⟩ = some (.string nm') ∧ W.cell? ⟨w4.heap.size, 3, none⟩ = some (.slice B' lb cb))
        (first | exact qd | exact qb | exact qa | exact q0)
        (first
          | (go_at_call 22; (with_reducible refine (A1.out _ bb0.out).mono ?_); rintro e wa ⟨ba, rfl, fa, pa⟩; have bb1 := Lib.hid (bb0.out.trans (fa.mono bb0.out.size)); have qa := FB.out _ bb1.out; have PA1 := Lib.hid (PX_kept 16 _ (fun k => k < W0.heap.size ∨ W4.heap.size ≤ k) (fun _ => False) _ _ _ _ (Kept.refl _ _) (fun _ _ _ h => h) (fun k _ h => h) pa); clear fa pa)
          | (go_at_call 22; (with_reducible refine (A2.out _ bb1.out).mono ?_); rintro e wb ⟨bb, rfl, fb, pb⟩; have bb2 := Lib.hid (bb1.out.trans (fb.mono bb1.out.size)); have qb := FB.out _ bb2.out; have PB1 := Lib.hid (PX_kept 16 _ (fun k => w3.heap.size ≤ k ∨ W4.heap.size ≤ k) (fun _ => False) _ _ _ _ (Kept.refl _ _) (fun _ _ _ h => h) (fun k _ h => h.imp id (fun h => Nat.le_trans bb1.out.size h)) pb); have PA2 := Lib.hid (PA1.out.stay fb); have SM2 := Lib.hid (SM.out ba bb wb PA2.out PB1.out); clear fb pb)
          | (go_at_call 18; (with_reducible refine SM2.out.mono ?_); rintro e wc ⟨b, rfl, hb5, b5⟩; have bb3 := Lib.hid (bb2.out.trans (b5.mono bb2.out.size)); have qd := FB.out _ bb3.out; have HB5 := Lib.hid hb5; clear hb5 b5))
      have K5 := Lib.hid (K4.out.trans (bb3.out.mono K4.out.size))
      cases b with
      | true =>
        go_wp2_with fail
        go_ret2
        refine ⟨K5.out, .inl ⟨l2, ⟨HY.out, hl2, q, HO.out, (aroundX_inj.1 (HB5.out.1 (by simp))).symm⟩, ?_⟩⟩
        rw [← HS.out]
        rfl
      | false =>
        go_wp2_with fail
        go_ret2
        refine ⟨K5.out, .inr ⟨fun t ht => ?_, rfl⟩⟩
        obtain rfl := HN2.out t ht
        obtain ⟨q', hq, he⟩ := ht.2.2
        rw [HO.out] at hq
        injection hq with hq
        subst hq
        have := HB5.out.2 (aroundX_inj.2 he.symm)
        cases this
end Go.Proofs.YtdgekckedchjbaaGreatDoor
