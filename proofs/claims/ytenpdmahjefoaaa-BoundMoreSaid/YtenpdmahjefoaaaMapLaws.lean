/-
  Maps with integer keys that are known entry by entry: insert and lookup, whatever the elements. No program is named here.
-/
import Derived.Test.YtenpdmahjefoaaaKept
import Derived.MapKept
namespace Go.Proofs.Ytenpdmahjefoaaa
open Go.RowKit

/-- Block r is a map of just these entries. -/
def MapIs (w : World) (r : Nat) (es : Array MapEntry) (clock : Nat) : Prop := w.heap[r]? = some (.map es clock)
theorem MapIs.lt {w : World} {r : Nat} {es : Array MapEntry} {c : Nat} (h : MapIs w r es c) : r < w.heap.size := (Array.getElem?_eq_some_iff.1 h).1
theorem MapIs.kept {S : Nat → Prop} {w w' : World} {r : Nat} {es : Array MapEntry} {c : Nat} (h : MapIs w r es c) (hk : Kept S w w') (hs : ¬ S r) : MapIs w' r es c := (hk.block r h.lt hs).trans h
theorem MapIs.below {w w' : World} {r : Nat} {es : Array MapEntry} {c : Nat} (h : MapIs w r es c) (hb : Below w.heap.size w w') : MapIs w' r es c := (hb.block r h.lt).trans h
theorem MapIs.new (w : World) : MapIs (w.alloc (.map #[] 0)) w.heap.size #[] 0 := heap_alloc_new w _

section
variable {P : Program} {w : World}
theorem run_lookup_known {t k e : TypeId} {q : IntKind} {r : Nat} {es : Array MapEntry} {c : Nat} {n : Int} {i : Nat} {v : Value} (ht : P.underlying t = some (.map k e)) (hk : P.underlying k = some (.int q)) (hm : MapIs w r es c)
    (hf : Instr.findNow (.int q) (.int q n) es.toList 0 = some (some (i, v))) :
    (Instr.lookup t (.map (some r)) (.int q n) true).run P w = .ok (.tuple #[v, .bool true]) w := by
  unfold Instr.lookup
  simp only [run_underlying ht, Sem.run_bind, Result.andThen_ok, Go.MapKept.run_getObj_map hm, Sem.run_pure, Go.MapKept.run_checkKey (P := P) (w := w) hk (k := .int q n) (by simp [Go.MapKept.IsKey]), Go.MapKept.run_findKey hk hf, if_true]
theorem run_lookup_missing {t k e : TypeId} {q : IntKind} {r : Nat} {es : Array MapEntry} {c : Nat} {n : Int} {z : Value} (ht : P.underlying t = some (.map k e)) (hk : P.underlying k = some (.int q)) (hm : MapIs w r es c)
    (hf : Instr.findNow (.int q) (.int q n) es.toList 0 = some none) (hz : (zeroValue e).run P w = .ok z w) :
    (Instr.lookup t (.map (some r)) (.int q n) true).run P w = .ok (.tuple #[z, .bool false]) w := by
  unfold Instr.lookup
  simp only [run_underlying ht, Sem.run_bind, Result.andThen_ok, Go.MapKept.run_getObj_map hm, Sem.run_pure, Go.MapKept.run_checkKey (P := P) (w := w) hk (k := .int q n) (by simp [Go.MapKept.IsKey]), Go.MapKept.run_findKey hk hf, hz, if_true]

/-- An entry more. -/
theorem wpList_insert_known {ops : Array Oper} {rest : List Oper} {o : Oper} {a : Act} {Q : Exit → Act → World → Prop} (hgd : Region.wanted o (yielded ops a.tmps) = true) (m x y : Operand) {t k e : TypeId} {q : IntKind} (r : Nat) (es : Array MapEntry) (c : Nat) (n : Int) (v : Value)
    (ho : o.op = .insert t m x y) (hd : o.dst = none) (ht : P.underlying t = some (.map k e)) (hk : P.underlying k = some (.int q)) (hm : MapIs w r es c) (em : a.eval m = .map (some r)) (ex : a.eval x = .int q n) (ey : a.eval y = v)
    (hf : Instr.findNow (.int q) (.int q n) es.toList 0 = some none)
    (h : ∀ w', MapIs w' r (es.push { key := .int q n, val := v, born := c }) (c + 1) → Kept (fun z => z = r) w w' → wpList P ops Q rest a w') : wpList P ops Q (o :: rest) a w := by
  refine BigFrame.wpList_want hgd fun K hK => ?_
  have hr : (Instr.mapUpdate t (.map (some r)) (.int q n) v).run P w = .ok () { w with heap := w.heap.setIfInBounds r (.map (es.push { key := .int q n, val := v, born := c }) (c + 1)) } := by
    unfold Instr.mapUpdate
    simp only [run_underlying ht, Sem.run_bind, Result.andThen_ok, Go.MapKept.run_getObj_map hm, Go.MapKept.run_checkKey (P := P) (w := w) hk (k := .int q n) (by simp [Go.MapKept.IsKey]), Go.MapKept.run_findKey hk hf, Go.MapKept.run_setObj_map _ hm]
  have hh := Go.MapKept.heap_set (o' := .map (es.push { key := .int q n, val := v, born := c }) (c + 1)) hm
  have hw := h { w with heap := w.heap.setIfInBounds r (.map (es.push { key := .int q n, val := v, born := c }) (c + 1)) } hh.1 ⟨rfl, rfl, rfl, by simp, fun z _ hz => hh.2 z hz⟩
  unfold Oper.wp
  simp only [execOp, ho, em, ex, ey, hr, Sem.run_bind, Result.andThen_ok, Sem.run_pure, Oper.upon, hd]
  exact hK _ _ hw
end
end Go.Proofs.Ytenpdmahjefoaaa
