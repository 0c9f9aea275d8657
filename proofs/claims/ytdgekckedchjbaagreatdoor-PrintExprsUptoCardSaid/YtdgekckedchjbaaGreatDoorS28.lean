
/-
  The parser of programs: programs in memory; the parser's program. (Printed by wip/tools/gens28.py.)
-/
import Derived.Test.YtdgekckedchjbaaGreatDoorQJ
namespace Go.Proofs.YtdgekckedchjbaaGreatDoor
open Go.RowKit

/-- A slice of elements of s cells each, in blocks D. -/
def RowD {α : Type} (D : Nat → Prop) (s : Nat) (Q : Cel α) (w : World) (l : List α) (v : Value) : Prop := ∃ (A : Option Addr) (n c : Nat), v = .slice A n c ∧ ElsG D w s 2513169434843 (Q D w) A n l
theorem RowD.kept {α : Type} {s : Nat} {Q : Cel α} (hq : QKept Q) {D E S : Nat → Prop} {w w' : World} {l : List α} {v : Value} (hk : Kept S w w') (hs : ∀ k, k < w.heap.size → D k → ¬ S k) (hE : ∀ k, k < w.heap.size → D k → E k) (h : RowD D s Q w l v) : RowD E s Q w' l v := by
  obtain ⟨A, n, c, h1, h2⟩ := h
  exact ⟨A, n, c, h1, h2.kept hk hs hE (fun cs a h => hq D E S w w' cs a hk hs hE h)⟩
/-- A program's eleven cells. -/
def PC : Cel Pg := fun D w cs p => ∃ v1 v2 v3 v4 v5 v6 v7 v8 : Value, cs = [.string (str p.nm), .int .i64 p.seats, v1, v2, v3, v4, v5, v6, .string (str p.silent), v7, v8] ∧ RowD D 1 QI w p.stakes v1 ∧ RowD D 4 QV w p.vars v2 ∧ RowD D 7 (QS 16) w p.start v3 ∧ RowD D 7 (QS 16) w p.turn v4 ∧ RowD D 4 QV w p.params v5 ∧ RowD D 7 (QS 16) w p.play v6 ∧ RowD D 7 (QS 16) w p.quiet v7 ∧ RowD D 7 (QS 16) w p.pays v8
theorem PC_kept : QKept PC := fun D E S w w' cs p hk hs hE h => by
  obtain ⟨v1, v2, v3, v4, v5, v6, v7, v8, h0, h1, h2, h3, h4, h5, h6, h7, h8⟩ := h
  exact ⟨v1, v2, v3, v4, v5, v6, v7, v8, h0, h1.kept QI_kept hk hs hE, h2.kept QV_kept hk hs hE, h3.kept (QS_kept 16) hk hs hE, h4.kept (QS_kept 16) hk hs hE, h5.kept QV_kept hk hs hE, h6.kept (QS_kept 16) hk hs hE, h7.kept (QS_kept 16) hk hs hE, h8.kept (QS_kept 16) hk hs hE⟩
def ShPg (_ : World) (v : Value) : Prop := ∃ (nm : ByteArray) (seats : Int) (sil : ByteArray) (A1 : Option Addr) (n1 c1 : Nat) (A2 : Option Addr) (n2 c2 : Nat) (A3 : Option Addr) (n3 c3 : Nat) (A4 : Option Addr) (n4 c4 : Nat) (A5 : Option Addr) (n5 c5 : Nat) (A6 : Option Addr) (n6 c6 : Nat) (A7 : Option Addr) (n7 c7 : Nat) (A8 : Option Addr) (n8 c8 : Nat), v = .agg #[.string nm, .int .i64 seats, .slice A1 n1 c1, .slice A2 n2 c2, .slice A3 n3 c3, .slice A4 n4 c4, .slice A5 n5 c5, .slice A6 n6 c6, .string sil, .slice A7 n7 c7, .slice A8 n8 c8]
def intsP (r : List Tk) : PS (List Int) := listP (kindT 2) numP r.length [] r
def varsP (r : List Tk) : PS (List Va) := listP (hasT [118, 97, 114]) variableP r.length [] r
/-- What append(y.2, list(..)...) leaves. -/
def StkTo (W : World) (g c : Nat) (A : Option Addr) (m : Nat → Nat) (ts : List Tk) (dp : Int) (p : PS (List Int)) (base ya b : Nat) (yc : Value → Array Value) (n0 : Int) (wc : World) : Prop :=
  ∃ (A8 : Option Addr) (n8 c8 : Nat) (zs : List Value) (i' : Nat) (er' : Int), Blk wc ya 48 (yc (.slice A8 (1 + n8) c8)) ∧ Par wc g A c m ts i' dp er' ∧ Kept (fun z => z = g ∨ z = ya ∨ z = b) W wc ∧
    wc.ownsRow base 3 1 (.slice A8 (1 + n8) c8) (1 + n8) ([.int .i64 n0] ++ zs) ∧ n8 ≤ 100000 ∧ PsAt ts i' er' p (fun l => l.length = n8 ∧ ∀ j (h : j < l.length), (zs.drop (j * 1)).take 1 = [.int .i64 (l[j]'h)]) ∧
    ∀ z, (Value.slice A8 (1 + n8) c8).ownBlock = some z → ya < z
end Go.Proofs.YtdgekckedchjbaaGreatDoor
