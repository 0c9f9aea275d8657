
/-
  Journals: entries in memory.
-/
import Derived.Test.YtidppcaohkfnfaaKCode
import Derived.Test.YtidppcaohkfnfaaH7
import Derived.Test.YtidppcaohkfnfaaStep
import Derived.Test.YtidppcaohkfnfaaReadB
namespace Go.Proofs.Ytidppcaohkfnfaa
open Go.RowKit

/-- An entry in memory. -/
structure Me where
  kind : Int
  key : ByteArray
  A : Option Addr
  n : Nat
  c : Nat
  body : List UInt8
def Me.en (m : Me) : En := ⟨m.kind, m.key.data.toList, m.body⟩
def Me.cells (m : Me) : List Value := [.int .i64 m.kind, .string m.key, .slice m.A m.n m.c]
def Me.val (m : Me) : Value := .agg #[.int .i64 m.kind, .string m.key, .slice m.A m.n m.c]
def meCells (l : List Me) : List Value := l.flatMap Me.cells
/-- It is a value, and its body lies in D. -/
structure Me.Ok (D : Nat → Prop) (w : World) (m : Me) : Prop where
  lo : -9223372036854775808 ≤ m.kind
  hi : m.kind ≤ 9223372036854775807
  sz : m.key.size ≤ 9223372036854775807
  cap : m.n ≤ m.c
  cm : m.c ≤ 9223372036854775807
  rin : RIn D w m.A m.n m.body
/-- It may be written down. -/
def Me.Right (m : Me) : Prop := 0 ≤ m.kind ∧ m.kind ≤ 255 ∧ m.key.size ≤ 64 ∧ m.n ≤ 65536
section
variable {D E S : Nat → Prop} {w w' : World} {m : Me}
theorem Me.Ok.kept (h : m.Ok D w) (hk : Kept S w w') (hs : ∀ k, D k → ¬ S k) : m.Ok D w' := ⟨h.lo, h.hi, h.sz, h.cap, h.cm, h.rin.kept hk hs⟩
theorem Me.Ok.below (h : m.Ok D w) (hb : Below w.heap.size w w') : m.Ok D w' := h.kept (Kept.of_below (S := fun _ => False) hb) (fun _ _ h => h)
theorem Me.Ok.mono (h : m.Ok D w) (hd : ∀ k, k < w.heap.size → D k → E k) : m.Ok E w := ⟨h.lo, h.hi, h.sz, h.cap, h.cm, h.rin.mono hd⟩
theorem Me.Ok.rb (h : m.Ok D w) : RB w m.A m.n m.body := h.rin.rb
theorem Me.Ok.len (h : m.Ok D w) : m.n = m.body.length := h.rin.1
end
theorem meCells_append (a b : List Me) : meCells (a ++ b) = meCells a ++ meCells b := by simp [meCells]
theorem meCells_length (l : List Me) : (meCells l).length = l.length * 3 := by
  induction l with
  | nil => rfl
  | cons t ts ih =>
    have : (meCells (t :: ts)).length = 3 + (meCells ts).length := by simp [meCells, Me.cells]; omega
    rw [this, ih, List.length_cons]
    omega
theorem meCells_cut : ∀ (l : List Me) (k : Nat) (h : k < l.length), ((meCells l).drop (k * 3)).take 3 = (l[k]'h).cells
  | t :: ts, 0, _ => by simp [meCells, Me.cells]
  | t :: ts, k + 1, h => by
    have e : meCells (t :: ts) = t.cells ++ meCells ts := rfl
    have e2 : t.cells.length = 3 := rfl
    have e3 : (t.cells ++ meCells ts).drop ((k + 1) * 3) = (meCells ts).drop (k * 3) := by
      rw [List.drop_append, List.drop_eq_nil_of_le (by rw [e2]; omega), e2, List.nil_append]
      congr 1
      omega
    rw [e, e3, List.getElem_cons_succ]
    exact meCells_cut ts k (by simpa using h)
theorem Me.one (m : Me) : ∀ u ∈ m.cells, u.oneCell' = true := by
  intro u hu
  simp [Me.cells] at hu
  rcases hu with rfl | rfl | rfl <;> rfl
theorem meCells_one (l : List Me) : ∀ u ∈ meCells l, u.oneCell' = true := by
  intro u hu
  obtain ⟨m, _, h⟩ := List.mem_flatMap.1 hu
  exact m.one u h
theorem Reads.chunk {w : World} {B s n : Nat} {A : Option Addr} {xs cs : List Value} (h : Reads w B s A n xs) (hs : 0 < s) {k : Nat} (hk : k < n) (hcs : (xs.drop (k * s)).take s = cs) :
    ∃ b o, A = some ⟨b, o, none⟩ ∧ b < B ∧ ∀ j u, cs[j]? = some u → w.cell? ⟨b, o + k * s + j, none⟩ = some u := by
  obtain ⟨ad, rfl, hb, hc⟩ := h.2 (by omega)
  have hlen : k * s + s ≤ xs.length := by
    rw [h.1]
    have h1 : k * s + s = (k + 1) * s := by rw [Nat.add_mul, Nat.one_mul]
    rw [h1]
    exact Nat.mul_le_mul_right _ hk
  have h0 := hc 0 _ (List.getElem?_eq_getElem (by omega))
  obtain ⟨b, o, spot⟩ := ad
  have hspot : spot = none := by simpa [Addr.add] using World.cell?_spot h0
  subst hspot
  refine ⟨b, o, rfl, hb, fun j u hu => ?_⟩
  rw [← hcs, List.getElem?_take] at hu
  split at hu
  · rw [List.getElem?_drop] at hu
    have := hc _ u hu
    rw [Addr.add_lit] at this
    rw [Nat.add_assoc]
    exact this
  · cases hu

/-- A digest's bytes. -/
def D8 (l : List UInt8) : List UInt8 := (List.range 8).map fun i => UInt8.ofNat (hashOf l i).toNat
theorem D8_length (l : List UInt8) : (D8 l).length = 8 := by simp [D8]
theorem hashOf_byte (l : List UInt8) (i : Nat) : 0 ≤ hashOf l i ∧ hashOf l i < 256 := by
  have := dig_by (xr (bytesS (beg 1) l).a (bytesS (beg 1) l).c) i
  show 0 ≤ dig (xr (bytesS (beg 1) l).a (bytesS (beg 1) l).c) i ∧ dig (xr (bytesS (beg 1) l).a (bytesS (beg 1) l).c) i < 256
  omega
theorem B8_D8 (l : List UInt8) : B8 (D8 l) = [.int .u8 (hashOf l 0), .int .u8 (hashOf l 1), .int .u8 (hashOf l 2), .int .u8 (hashOf l 3), .int .u8 (hashOf l 4), .int .u8 (hashOf l 5), .int .u8 (hashOf l 6), .int .u8 (hashOf l 7)] := by
  have key : ∀ i, Value.int .u8 ((UInt8.ofNat (hashOf l i).toNat).toNat : Int) = .int .u8 (hashOf l i) := by
    intro i
    obtain ⟨h0, h1⟩ := hashOf_byte l i
    rw [UInt8.toNat_ofNat']
    congr 1
    omega
  unfold D8 B8
  rw [List.map_map]
  show [_, _, _, _, _, _, _, _] = _
  simp only [Function.comp]
  rw [key 0, key 1, key 2, key 3, key 4, key 5, key 6, key 7]
end Go.Proofs.Ytidppcaohkfnfaa
