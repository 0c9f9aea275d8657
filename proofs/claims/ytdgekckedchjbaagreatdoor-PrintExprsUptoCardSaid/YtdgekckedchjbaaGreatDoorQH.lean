
/-
  The parser of programs: variables and parameters. (Printed by wip/tools/gens22.py.) The parser of programs: each step takes tokens; the statements of a statement, and of a part. The parser of programs: the parameters of play. Cells of one expression; an owned row of trees is a slice.
-/
import Derived.Test.YtdgekckedchjbaaGreatDoorQG
import Derived.Test.YtdgekckedchjbaaGreatDoorQD
import Derived.Test.YtdgekckedchjbaaGreatDoorQB
import Derived.IntWalk
import Derived.Deep.RegionHeld3
namespace Go.Proofs.YtdgekckedchjbaaGreatDoor
open Go.RowKit

/-- A variable's size, where there is one. -/
def szP (r : List Tk) : PS Int := if hasT [91] r then (numP r.tail).bind fun n r => (mustP [93] r).bind fun _ r => .ok n r else .ok 0 r
def szT (r : List Tk) : PS Int := (numP r).bind fun n r => (mustP [93] r).bind fun _ r => .ok n r
end Go.Proofs.YtdgekckedchjbaaGreatDoor
namespace Go.Proofs.YtdgekckedchjbaaGreatDoor
open Go.RowKit

/-- It takes none back. -/
def LeP {α : Type} (f : List Tk → PS α) : Prop := ∀ r a r', f r = .ok a r' → r'.length ≤ r.length
theorem LeP.ok {α : Type} (a : α) : LeP (fun r => PS.ok a r) := fun _ _ _ h => by
  injection h with _ h
  rw [h]
  exact Nat.le_refl _
theorem EatsP.bind {α β : Type} {p : List Tk → PS α} {f : α → List Tk → PS β} (hp : EatsP p) (hf : ∀ a, LeP (f a)) : EatsP fun r => (p r).bind fun a r => f a r := fun r b r' h => by
  simp only at h
  cases hq : p r with
  | ok a r1 =>
    rw [hq] at h
    exact Nat.lt_of_le_of_lt (hf a _ _ _ h) (hp _ _ _ hq)
  | bad r1 e =>
    rw [hq] at h
    cases h
theorem LeP.bind {α β : Type} {p : List Tk → PS α} {f : α → List Tk → PS β} (hp : LeP p) (hf : ∀ a, LeP (f a)) : LeP fun r => (p r).bind fun a r => f a r := fun r b r' h => by
  simp only at h
  cases hq : p r with
  | ok a r1 =>
    rw [hq] at h
    exact Nat.le_trans (hf a _ _ _ h) (hp _ _ _ hq)
  | bad r1 e =>
    rw [hq] at h
    cases h
theorem LeP.tail {α : Type} {f : List Tk → PS α} (hf : LeP f) : LeP fun r => f r.tail := fun r a r' h => Nat.le_trans (hf _ _ _ h) (by simp)
theorem EatsP.tail {α : Type} {f : List Tk → PS α} (hf : EatsP f) : EatsP fun r => f r.tail := fun r a r' h => Nat.lt_of_lt_of_le (hf _ _ _ h) (by simp)
/-- What is asked of statement, within which there may stand d more. -/
def StmtOk (g c : Nat) (A : Option Addr) (m : Nat → Nat) (ts : List Tk) (d : Nat) : Prop := ∀ (dp : Int) (i : Nat) (w : World), dp + (d : Int) = 16 → 0 ≤ dp → Par w g A c m ts i dp 0 → beginsT (ts.drop i) = true →
  Calls Tryz.prog 92 #[.pointer (some ⟨g, 0, none⟩)] w (StepTo w g c A m ts dp (stmtD d (ts.drop i)) (IsEl (QS d) w.heap.size) ShSt)
def innerP (d : Nat) (r : List Tk) : PS (List St) := listP beginsT (stmtD d) r.length [] r
theorem Par.depth {w w' : World} {g c : Nat} {A : Option Addr} {m : Nat → Nat} {ts : List Tk} {i : Nat} {dp er : Int} (h : Par w g A c m ts i dp er) (d2 : Int) {i2 : Nat} {er2 d1 : Int} (h2 : Par w' g A c m ts i2 d1 er2) (hk : Kept (fun z => z = g) w w') :
    Par (w'.setCell ⟨g, 2, none⟩ (.int .i64 d2)) g A c m ts i2 d2 er2 ∧ Kept (fun z => z = g) w (w'.setCell ⟨g, 2, none⟩ (.int .i64 d2)) := by
  have k := hk.setCell (p := ⟨g, 2, none⟩) (fun _ => rfl) (.int .i64 d2)
  exact ⟨⟨h.st.kept k (fun _ _ e => e), h2.blk.set_ 2 _, h2.at_⟩, k⟩
end Go.Proofs.YtdgekckedchjbaaGreatDoor
namespace Go.Proofs.YtdgekckedchjbaaGreatDoor
open Go.RowKit

def moreC (r : List Tk) : PS (List Va) := listP (hasT [44]) anotherP r.length [] r
def paramsT (r : List Tk) : PS (List Va) := (parameterP r).bind fun v r => (moreC r).bind fun l r => .ok (v :: l) r
end Go.Proofs.YtdgekckedchjbaaGreatDoor
namespace Go.Proofs.YtdgekckedchjbaaGreatDoor
open Go.RowKit

theorem reads4 (W : World) (t : TypeId) (a b c d : Value) : Reads (W.alloc (.cells #[a, b, c, d] t)) (W.heap.size + 1) 4 (some ⟨W.heap.size, 0, none⟩) 1 [a, b, c, d] := by
  refine ⟨rfl, fun _ => ⟨_, rfl, by simp, fun j u hu => ?_⟩⟩
  rw [Addr.add_lit, Nat.zero_add, (Blk.new W t #[a, b, c, d]).cell j]
  simpa using hu
theorem one4 (op N : Int) (nm : ByteArray) (A : Option Addr) (l c : Nat) : ∀ u ∈ [Value.int .i64 op, .int .i64 N, .string nm, .slice A l c], u.oneCell' = true := by
  intro u hu
  simp only [List.mem_cons, List.not_mem_nil, or_false] at hu
  rcases hu with rfl | rfl | rfl | rfl <;> rfl
theorem OwnG.slice {w : World} {base : Nat} {t : TypeId} {M n : Nat} {v : Value} {l : List Gx} (h : OwnG w base t M n v l) : ∃ A c, v = .slice A l.length c := by
  obtain ⟨ys, h1, _, _⟩ := h
  obtain ⟨A, c, hv, _⟩ := own_is h1
  exact ⟨A, c, hv⟩
end Go.Proofs.YtdgekckedchjbaaGreatDoor
