
/-
  package lex: Same.
-/
import Derived.Test.YtdmlnoeneoomfaaDoorL10
import Derived.Laws.StructEq
namespace Go.Proofs.YtdmlnoeneoomfaaDoor
open Go.RowKit

theorem Reads.chunk {w : World} {B s n : Nat} {A : Option Addr} {xs cs : List Value} (h : Reads w B s A n xs) (hs : 0 < s) {k : Nat} (hk : k < n) (hcs : (xs.drop (k * s)).take s = cs) :
    ∃ b o, A = some ⟨b, o, none⟩ ∧ b < B ∧ ∀ j u, cs[j]? = some u → w.cell? ⟨b, o + k * s + j, none⟩ = some u := by
  obtain ⟨ad, rfl, hb, hc⟩ := h.2 (by omega)
  have hlen : k * s + s ≤ xs.length := by
    rw [h.1]
    have h1 : k * s + s = (k + 1) * s := by rw [Nat.add_mul, Nat.one_mul]
    rw [h1]
    exact Nat.mul_le_mul_right _ hk
  have h0 := hc 0 _ (List.getElem?_eq_getElem (by omega))
  obtain ⟨b, o, spot⟩ := ad
  have hspot : spot = none := by simpa [Addr.add] using World.cell?_spot h0
  subst hspot
  refine ⟨b, o, rfl, hb, fun j u hu => ?_⟩
  rw [← hcs, List.getElem?_take] at hu
  split at hu
  · rw [List.getElem?_drop] at hu
    have := hc _ u hu
    rw [Addr.add_lit] at this
    rw [Nat.add_assoc]
    exact this
  · cases hu
theorem tksCells_length (ts : List Tk) : (tksCells ts).length = ts.length * 5 := by
  induction ts with
  | nil => rfl
  | cons t ts ih =>
    have : (tksCells (t :: ts)).length = 5 + (tksCells ts).length := by simp [tksCells, tkCells]; omega
    rw [this, ih, List.length_cons]
    omega
theorem tksCells_cut : ∀ (ts : List Tk) (k : Nat) (h : k < ts.length), ((tksCells ts).drop (k * 5)).take 5 = tkCells (ts[k]'h)
  | t :: ts, 0, _ => by simp [tksCells, tkCells]
  | t :: ts, k + 1, h => by
    have e : tksCells (t :: ts) = tkCells t ++ tksCells ts := rfl
    have e2 : (tkCells t).length = 5 := rfl
    have e3 : (tkCells t ++ tksCells ts).drop ((k + 1) * 5) = (tksCells ts).drop (k * 5) := by
      rw [List.drop_append, List.drop_eq_nil_of_le (by rw [e2]; omega), e2, List.nil_append]
      congr 1
      omega
    rw [e, e3, List.getElem_cons_succ]
    exact tksCells_cut ts k (by simpa using h)

def Tk.bare (t : Tk) : Int × List UInt8 × Int := (t.kind, t.text, t.n)
def sameT (a b : List Tk) : Bool := decide (a.map Tk.bare = b.map Tk.bare)
theorem sameT_len {a b : List Tk} (h : a.length ≠ b.length) : sameT a b = false := by
  unfold sameT
  rw [decide_eq_false_iff_not]
  intro e
  exact h (by simpa using congrArg List.length e)

theorem take_bare {ta tb : List Tk} {k : Nat} (ha : k < ta.length) (hb : k < tb.length) : ((ta.take (k + 1)).map Tk.bare = (tb.take (k + 1)).map Tk.bare) ↔ ((ta.take k).map Tk.bare = (tb.take k).map Tk.bare ∧ (ta[k]'ha).bare = (tb[k]'hb).bare) := by
  rw [List.take_succ_eq_append_getElem ha, List.take_succ_eq_append_getElem hb, List.map_append, List.map_append]
  simp only [List.map_cons, List.map_nil]
  constructor
  · intro h
    have := List.append_inj h (by simp; omega)
    exact ⟨this.1, by simpa using this.2⟩
  · rintro ⟨h1, h2⟩
    rw [h1, h2]

end Go.Proofs.YtdmlnoeneoomfaaDoor
