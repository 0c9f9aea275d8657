/-
  What is put, one behind the other, is read: plain Lean.
-/
import Derived.Test.YtcjgpfocngipmaaReadB
import Derived.Test.YtcjgpfocngipmaaRound
namespace Go.Proofs.Ytcjgpfocngipmaa

/-- Bytes with how many they are. -/
def encT (t : List UInt8) : List UInt8 := num t.length ++ t

theorem readNum_at (pre rest : List UInt8) (x most : Nat) (hx : x < 18446744073709551616) (hm : x ≤ most) : readNum (pre ++ (num x ++ rest)) pre.length 0 most = (x, (pre ++ num x).length, 0) := by
  unfold readNum stepN
  rw [if_neg (by simp), List.drop_left, lookL_num hx]
  simp only [ne_eq, not_true_eq_false, if_false]
  rw [if_neg (by omega)]
  simp [after]

theorem readBytes_at (pre rest t : List UInt8) (lim : Nat) (ht : t.length < 18446744073709551616) (hl : t.length ≤ lim) : readBytes (pre ++ (encT t ++ rest)) pre.length 0 lim = (t, (pre ++ encT t).length, 0) := by
  unfold readBytes stepB encT
  rw [if_neg (by simp), List.drop_left, List.append_assoc, lookL_num ht]
  simp only [ne_eq, not_true_eq_false, if_false]
  rw [if_neg (by omega), if_neg (by simp)]
  simp [afterB]

/-- Pieces, one behind the other. -/
def cat {α : Type} (f : α → List UInt8) (l : List α) : List UInt8 := (l.map f).flatten
theorem cat_take {α : Type} (f : α → List UInt8) (l : List α) (i : Nat) (h : i < l.length) : cat f (l.take (i + 1)) = cat f (l.take i) ++ f (l[i]'h) := by
  unfold cat
  rw [List.take_succ_eq_append_getElem h, List.map_append, List.flatten_append]
  simp only [List.map_cons, List.map_nil, List.flatten_cons, List.flatten_nil, List.append_nil]
theorem cat_drop {α : Type} (f : α → List UInt8) (l : List α) (i : Nat) (h : i < l.length) : cat f (l.drop i) = f (l[i]'h) ++ cat f (l.drop (i + 1)) := by
  unfold cat
  rw [List.drop_eq_getElem_cons h, List.map_cons, List.flatten_cons]
theorem cat_len {α : Type} (f : α → List UInt8) (m : Nat) (l : List α) (h : ∀ x ∈ l, (f x).length ≤ m) : (cat f l).length ≤ l.length * m := by
  induction l with
  | nil => simp [cat]
  | cons x l ih =>
    have h1 := h x (by simp)
    have h2 := ih (fun y hy => h y (List.mem_cons_of_mem _ hy))
    unfold cat at h2 ⊢
    simp only [List.map_cons, List.flatten_cons, List.length_append, List.length_cons]
    rw [Nat.add_mul]
    omega
end Go.Proofs.Ytcjgpfocngipmaa
