
/-
  Arrays of integers, or of truths, compared. No program is named here.
-/
import Derived.ChangeKeysEq
import Derived.Laws.StructEq
namespace Go.Proofs.Ytidppcaohkfnfaa

section
variable {P : Program} (w : World)
theorem run_eqItems_of {α : Type} [DecidableEq α] (d : Nat) {e : TypeId} (he : P.plainKey e = true) (hc : P.cellsOf e = 1) (f : α → Value) (hf : ∀ a b, (Op.equalIn d e (f a) (f b)).run P w = .ok (decide (a = b)) w)
    (xs ys : List α) (hl : xs.length = ys.length) : ∀ k, k ≤ xs.length → (Op.eqItems d e (P.cellsOf e) (xs.map f).toArray (ys.map f).toArray (List.range' (xs.length - k) k)).run P w = .ok (decide (xs.drop (xs.length - k) = ys.drop (xs.length - k))) w := by
  intro k
  induction k with
  | zero =>
    intro _
    rw [Nat.sub_zero, List.drop_of_length_le (Nat.le_refl _), List.drop_of_length_le (by omega)]
    simp [Op.eqItems]
  | succ k ih =>
    intro hk
    have ih' := ih (by omega)
    rw [List.range'_succ]
    have e1 : xs.length - (k + 1) + 1 = xs.length - k := by omega
    rw [e1]
    have hx : xs.length - (k + 1) < xs.length := by omega
    have hy : xs.length - (k + 1) < ys.length := by omega
    have p1 : (part e (xs.map f).toArray ((xs.length - (k + 1)) * P.cellsOf e)).run P w = .ok (f xs[xs.length - (k + 1)]) w := run_part_plain w he (by rw [hc]; simp [hx])
    have p2 : (part e (ys.map f).toArray ((xs.length - (k + 1)) * P.cellsOf e)).run P w = .ok (f ys[xs.length - (k + 1)]) w := run_part_plain w he (by rw [hc]; simp [hy])
    rw [List.drop_eq_getElem_cons hx, List.drop_eq_getElem_cons hy, e1]
    simp only [Op.eqItems, Sem.run_bind, p1, p2, hf, Result.andThen_ok]
    by_cases hq : xs[xs.length - (k + 1)] = ys[xs.length - (k + 1)]
    · simp only [hq, decide_true, Bool.not_true, Bool.false_eq_true, if_false]
      rw [ih']
      simp
    · simp [hq]
theorem run_equal_row {α : Type} [DecidableEq α] (d : Nat) {t e : TypeId} {n : Nat} {i : TypeInfo} (hu : P.underlying t = some (.array n e)) (hi : P.info? e = some i) (he : P.plainKey e = true) (hc : P.cellsOf e = 1) (f : α → Value) (hf : ∀ a b, (Op.equalIn d e (f a) (f b)).run P w = .ok (decide (a = b)) w)
    (xs ys : List α) (hx : xs.length = n) (hy : ys.length = n) : (Op.equalIn (d + 1) t (.agg (xs.map f).toArray) (.agg (ys.map f).toArray)).run P w = .ok (decide (xs = ys)) w := by
  rw [run_equalIn_array w d _ _ hu hi, List.range_eq_range', ← hx]
  have := run_eqItems_of w d he hc f hf xs ys (by omega) xs.length (Nat.le_refl _)
  rw [Nat.sub_self] at this
  simpa using this
end
end Go.Proofs.Ytidppcaohkfnfaa
