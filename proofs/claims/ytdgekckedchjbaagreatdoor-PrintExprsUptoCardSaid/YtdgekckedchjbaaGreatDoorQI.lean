
/-
  The parser of programs: a statement that begins with a name. (Printed by wip/tools/gens25.py.) The parser of programs: what stands behind an if; a statement. (Printed by wip/tools/gens26.py.)
-/
import Derived.Test.YtdgekckedchjbaaGreatDoorQH
import Derived.Deep.AppendLies
namespace Go.Proofs.YtdgekckedchjbaaGreatDoor
open Go.RowKit

def putT (r : List Tk) : PS (Int × List Ex) := (exprP r).bind fun e r => (mustP [93] r).bind fun _ r => (mustP [61] r).bind fun _ r => (exprP r).bind fun e2 r => .ok (1, [e, e2]) r
def setT (r : List Tk) : PS (Int × List Ex) := (mustP [61] r).bind fun _ r => (exprP r).bind fun e r => .ok (0, [e]) r
def bodyP (r : List Tk) : PS (Int × List Ex) := if hasT [91] r then putT r.tail else setT r
/-- What append(y.f, expression()) leaves. -/
def AppTo (W : World) (g c : Nat) (A : Option Addr) (m : Nat → Nat) (ts : List Tk) (dp : Int) (p : PS Ex) (base ya : Nat) (yc : Value → Array Value) (vo : Value) (n : Nat) (ys : List Value) (wc : World) : Prop :=
  ∃ (A8 : Option Addr) (c8 : Nat) (cs : List Value) (i' : Nat) (er' : Int) (zm : Nat), Blk wc ya 95 (yc (.slice A8 (n + 1) c8)) ∧ Par wc g A c m ts i' dp er' ∧ Kept (fun z => z = g ∨ z = ya ∨ vo.ownBlock = some z) W wc ∧
    wc.ownsRow base 40 4 (.slice A8 (n + 1) c8) (n + 1) (ys ++ cs) ∧ cs.length = 4 ∧ PsAt ts i' er' p (fun x => TE (fun k => W.heap.size ≤ k ∧ k < zm) wc x cs) ∧ W.heap.size ≤ zm ∧ zm ≤ wc.heap.size ∧
    ∀ z, (Value.slice A8 (n + 1) c8).ownBlock = some z → vo.ownBlock = some z ∨ zm ≤ z
end Go.Proofs.YtdgekckedchjbaaGreatDoor
namespace Go.Proofs.YtdgekckedchjbaaGreatDoor
open Go.RowKit

def elP (d : Nat) (r : List Tk) : PS (List St) := if hasT [101, 108, 115, 101] r then innerP d r.tail else .ok [] r
def condP (d : Nat) (r : List Tk) : PS St := (exprP r).bind fun e r => (mustP [116, 104, 101, 110] r).bind fun _ r => (innerP d r).bind fun l r => (elP d r).bind fun el r => (mustP [101, 110, 100] r).bind fun _ r => .ok (.mk 2 [] [e] 0 0 l el) r
def forP (d : Nat) (r : List Tk) : PS St := (nameP r).bind fun nm r => (signedP r).bind fun lo r => (signedP r).bind fun hi r => (mustP [100, 111] r).bind fun _ r => (innerP d r).bind fun l r => (mustP [101, 110, 100] r).bind fun _ r => .ok (.mk 3 nm [] lo hi l []) r
def refP (r : List Tk) : PS St := .ok (.mk 4 [] [] 0 0 [] []) r
def rollP (r : List Tk) : PS St := (nameP r).bind fun nm r => (numP r).bind fun n r => .ok (.mk 5 nm [] n 0 [] []) r
def seatP (r : List Tk) : PS St := (exprP r).bind fun e r => .ok (.mk 6 [] [e] 0 0 [] []) r
def overP (r : List Tk) : PS St := .ok (.mk 7 [] [] 0 0 [] []) r
def payP (r : List Tk) : PS St := (exprP r).bind fun e r => (exprP r).bind fun e2 r => .ok (.mk 8 [] [e, e2] 0 0 [] []) r
def restP (r : List Tk) : PS St := (exprP r).bind fun e r => .ok (.mk 9 [] [e] 0 0 [] []) r
theorem SE.deep {D : Nat → Prop} {w : World} : ∀ (n : Nat) (cs : List Value) (s : St), SE D w n cs s → SE D w (n + 1) cs s
  | 0, _, _, h => absurd h id
  | n + 1, cs, .mk kind nm E lo hi L El, h => by
    obtain ⟨A1, l1, c1, A2, l2, c2, A3, l3, c3, h1, h2, h3, h4⟩ := h
    exact ⟨A1, l1, c1, A2, l2, c2, A3, l3, c3, h1, h2, h3.kept (Kept.refl (fun _ => False) _) (fun _ _ _ h => h) (fun _ _ h => h) (SE.deep n), h4.kept (Kept.refl (fun _ => False) _) (fun _ _ _ h => h) (fun _ _ h => h) (SE.deep n)⟩
theorem SE.deeper {D : Nat → Prop} {w : World} {n m : Nat} (hm : n ≤ m) {cs : List Value} {s : St} (h : SE D w n cs s) : SE D w m cs s := by
  obtain ⟨d, rfl⟩ : ∃ d, m = n + d := ⟨m - n, by omega⟩
  induction d with
  | zero => exact h
  | succ d ih => exact SE.deep _ _ _ (ih (by omega))
theorem IsRow.els {α : Type} {s : Nat} {Q : Cel α} {b : Nat} {w : World} {l : List α} {A : Option Addr} {n c : Nat} (h : IsRow s Q b w l (.slice A n c)) : ElsG (fun k => b ≤ k) w s 2513169434843 (Q (fun k => b ≤ k) w) A n l := by
  obtain ⟨A', n', c', hv, h⟩ := h
  injection hv with h1 h2 h3
  subst h1
  subst h2
  exact h
theorem IsEl.cells {α : Type} {Q : Cel α} {b : Nat} {w : World} {a : α} {cs : List Value} (h : IsEl Q b w a (.agg (List.toArray cs))) : Q (fun k => b ≤ k) w cs a := by
  obtain ⟨cs', hv, h⟩ := h
  injection hv with hv
  have := congrArg Array.toList hv
  simp only at this
  rw [this]
  exact h
end Go.Proofs.YtdgekckedchjbaaGreatDoor
