
/-
  Frames: what of memory a call may have turned; blocks that are known whole; bytes in known blocks. No program is named here.
-/
import Derived.Test.YtdmlnoeneoomfaaDoorBase
namespace Go.Proofs.YtdmlnoeneoomfaaDoor
open Go.RowKit

/-- Of the blocks that were there only those in S may have turned. -/
structure Kept (S : Nat → Prop) (w w' : World) : Prop where
  os : w'.os = w.os
  tape : w'.tape = w.tape
  output : w'.output = w.output
  size : w.heap.size ≤ w'.heap.size
  block : ∀ k, k < w.heap.size → ¬ S k → w'.heap[k]? = w.heap[k]?

section
variable {S T : Nat → Prop} {a b c w w' : World}
theorem Kept.refl (S : Nat → Prop) (w : World) : Kept S w w := ⟨rfl, rfl, rfl, Nat.le_refl _, fun _ _ _ => rfl⟩
theorem Kept.trans (h : Kept S a b) (k : Kept S b c) : Kept S a c :=
  ⟨k.os.trans h.os, k.tape.trans h.tape, k.output.trans h.output, Nat.le_trans h.size k.size, fun i hi hn => (k.block i (Nat.lt_of_lt_of_le hi h.size) hn).trans (h.block i hi hn)⟩
theorem Kept.mono (h : Kept S a b) (hs : ∀ k, k < a.heap.size → S k → T k) : Kept T a b := ⟨h.os, h.tape, h.output, h.size, fun k hk hn => h.block k hk (fun hS => hn (hs k hk hS))⟩
/-- What comes behind may turn what is new besides. -/
theorem Kept.then_ (h : Kept S a b) (k : Kept T b c) (hs : ∀ i, i < a.heap.size → T i → S i) : Kept S a c :=
  ⟨k.os.trans h.os, k.tape.trans h.tape, k.output.trans h.output, Nat.le_trans h.size k.size, fun i hi hn => (k.block i (Nat.lt_of_lt_of_le hi h.size) (fun hT => hn (hs i hi hT))).trans (h.block i hi hn)⟩
theorem Kept.drew (h : Kept S a b) : Kept S a b.drew := ⟨h.os, h.tape, h.output, h.size, h.block⟩
theorem Kept.drewN (h : Kept S a b) (n : Nat) : Kept S a (b.drewN n) := ⟨h.os, h.tape, h.output, h.size, h.block⟩
theorem Kept.alloc (h : Kept S a b) (o : Obj) : Kept S a (b.alloc o) :=
  ⟨h.os, h.tape, h.output, Nat.le_trans h.size (by simp), fun i hi hn => (Below.heap_alloc b o i (Nat.lt_of_lt_of_le hi h.size)).trans (h.block i hi hn)⟩
theorem Kept.setCell (h : Kept S a b) {p : Addr} (hp : p.block < a.heap.size → S p.block) (u : Value) : Kept S a (b.setCell p u) :=
  ⟨h.os, h.tape, h.output, by simpa [World.setCell] using h.size, fun i hi hn => (Below.heap_setCell b p u i (by rintro rfl; exact hn (hp hi))).trans (h.block i hi hn)⟩
theorem Kept.of_below (h : Below a.heap.size a b) : Kept S a b := ⟨h.os, h.tape, h.output, h.size, fun k hk _ => h.block k hk⟩
theorem Kept.below_ (h : Kept S a b) (k : Below b.heap.size b c) : Kept S a c := h.then_ (Kept.of_below (S := S) k) (fun _ _ h => h)
theorem Kept.of_grown {row : Option Nat} (h : a.grownBy b row) (hs : ∀ k, row = some k → S k) : Kept S a b :=
  ⟨h.os, h.tape, h.output, h.size, fun k hk hn => h.block k hk (fun e => hn (hs k e.symm))⟩
theorem Kept.to_below {B : Nat} (h : Kept S a b) (hB : B ≤ a.heap.size) (hs : ∀ k, k < B → ¬ S k) : Below B a b := ⟨h.os, h.tape, h.output, h.size, fun k hk => h.block k (by omega) (hs k hk)⟩
theorem Kept.cell (h : Kept S a b) {p : Addr} (hp : p.block < a.heap.size) (hn : ¬ S p.block) : b.cell? p = a.cell? p := World.cell?_of_block (h.block p.block hp hn)
theorem Kept.frozen (h : Kept S a b) {p : Addr} (hp : p.block < a.heap.size) (hn : ¬ S p.block) : b.frozen? p = a.frozen? p := World.frozen?_of_block (h.block p.block hp hn)
end

theorem quiet_left {P : Program} {f : FuncId} {args : Array Value} {w : World} {n : Nat} {v : Value}
    (h : Calls P f args (w.drewN n) fun e w' => e = .returned v ∧ w.drewN n = w') : Calls P f args (w.drewN n) fun e w'' => e = .returned v ∧ ∃ m, w'' = w.drewN m :=
  h.mono fun _ _ ⟨he, hm⟩ => ⟨he, n, hm.symm⟩
/-- Block g is just the cells cs of element type t, none frozen. -/
def Blk (w : World) (g : Nat) (t : TypeId) (cs : Array Value) : Prop := w.heap[g]? = some (.cells cs t (0, 0))
section
variable {w w' : World} {g : Nat} {t : TypeId} {cs : Array Value}
theorem Blk.lt (h : Blk w g t cs) : g < w.heap.size := by
  rcases Nat.lt_or_ge g w.heap.size with hlt | hge
  · exact hlt
  · unfold Blk at h; rw [Array.getElem?_eq_none hge] at h; cases h
theorem Blk.cell (h : Blk w g t cs) (i : Nat) : w.cell? ⟨g, i, none⟩ = cs[i]? := cell_of_row w g i cs t (0, 0) h
theorem Blk.frozen (h : Blk w g t cs) (i : Nat) : w.frozen? ⟨g, i, none⟩ = false := by
  unfold Blk at h
  simp [World.frozen?, h]
theorem Blk.new (w : World) (t : TypeId) (cs : Array Value) : Blk (w.alloc (.cells cs t)) w.heap.size t cs := heap_alloc_new w _
theorem Blk.drew (h : Blk w g t cs) : Blk w.drew g t cs := h
theorem Blk.drewN (h : Blk w g t cs) (n : Nat) : Blk (w.drewN n) g t cs := h
theorem Blk.alloc (h : Blk w g t cs) (o : Obj) : Blk (w.alloc o) g t cs := (Below.heap_alloc w o g h.lt).trans h
theorem Blk.set_ (h : Blk w g t cs) (i : Nat) (u : Value) : Blk (w.setCell ⟨g, i, none⟩ u) g t (cs.setIfInBounds i u) := by
  unfold Blk at h ⊢
  simp [World.setCell, Array.getElem?_modify, h]
theorem Blk.far (h : Blk w g t cs) {p : Addr} (hp : g ≠ p.block) (u : Value) : Blk (w.setCell p u) g t cs := (Below.heap_setCell w p u g hp).trans h
theorem Blk.below {B : Nat} (h : Blk w g t cs) (hb : Below B w w') (hg : g < B) : Blk w' g t cs := (hb.block g hg).trans h
theorem Blk.kept {S : Nat → Prop} (h : Blk w g t cs) (hb : Kept S w w') (hg : ¬ S g) : Blk w' g t cs := (hb.block g h.lt hg).trans h
end

/-- The slice '.slice A n c' holds the bytes l, in a block in D. -/
def RIn (D : Nat → Prop) (w : World) (A : Option Addr) (n : Nat) (l : List UInt8) : Prop :=
  n = l.length ∧ (0 < n → ∃ ad, A = some ad ∧ D ad.block ∧ ad.block < w.heap.size ∧ ∀ j u, (B8 l)[j]? = some u → w.cell? (ad.add j) = some u)
section
variable {D S : Nat → Prop} {w w' : World} {A : Option Addr} {n : Nat} {l : List UInt8}
theorem RIn.rb (h : RIn D w A n l) : RB w A n l := by
  refine ⟨by rw [B8_length, h.1, Nat.mul_one], fun hn => ?_⟩
  obtain ⟨ad, e, _, hb, hc⟩ := h.2 hn
  exact ⟨ad, e, hb, hc⟩
theorem RIn.kept (h : RIn D w A n l) (hk : Kept S w w') (hs : ∀ k, D k → ¬ S k) : RIn D w' A n l := by
  refine ⟨h.1, fun hn => ?_⟩
  obtain ⟨ad, e, hd, hb, hc⟩ := h.2 hn
  exact ⟨ad, e, hd, by have := hk.size; omega, fun j u hu => (hk.cell (by rw [block_of_add]; exact hb) (by rw [block_of_add]; exact hs _ hd)).trans (hc j u hu)⟩
theorem RIn.of_rb (h : RB w A n l) : RIn (fun _ => True) w A n l := by
  refine ⟨h.len, fun hn => ?_⟩
  obtain ⟨ad, e, hb, hc⟩ := h.2 hn
  exact ⟨ad, e, trivial, hb, hc⟩
theorem RIn.mono {E : Nat → Prop} (h : RIn D w A n l) (hd : ∀ k, k < w.heap.size → D k → E k) : RIn E w A n l := by
  refine ⟨h.1, fun hn => ?_⟩
  obtain ⟨ad, e, hD, hb, hc⟩ := h.2 hn
  exact ⟨ad, e, hd _ hb hD, hb, hc⟩
end

/-- The slice '.slice A n c' holds the values xs in w, one cell each. -/
def RV (w : World) (A : Option Addr) (n : Nat) (xs : List Value) : Prop := Reads w w.heap.size 1 A n xs
section
variable {w w' : World} {n : Nat} {A : Option Addr} {xs : List Value}
theorem RV.len (h : RV w A n xs) : n = xs.length := by have := h.1; omega
theorem RV.below (h : RV w A n xs) (hb : Below w.heap.size w w') : RV w' A n xs := (Reads.below h hb).more hb.size
theorem RV.drewN (h : RV w A n xs) (k : Nat) : RV (w.drewN k) A n xs := h
theorem RV.upto (h : RV w A n xs) {k : Nat} (hk : k ≤ n) : RV w A k (xs.take k) := by
  have := Reads.upto h hk
  unfold RV
  simpa using this
theorem RV.at_ {k : Nat} (h : RV w A n xs) (hk : k < n) : ∃ b o, A = some ⟨b, o, none⟩ ∧ b < w.heap.size ∧ ∃ hl : k < xs.length, w.cell? ⟨b, o + k, none⟩ = some (xs[k]'hl) := by
  have hl : k < xs.length := by have := h.len; omega
  obtain ⟨ad, u, rfl, hb, hx, hc⟩ := Reads.at_ h hk
  obtain ⟨ad0, u0, e0, _, _, hc0⟩ := Reads.at_ h (k := 0) (by omega)
  obtain rfl := Option.some.inj e0
  obtain ⟨b, o, spot⟩ := ad
  have hspot : spot = none := by simpa [Addr.add] using World.cell?_spot hc0
  subst hspot
  rw [Addr.add_lit] at hc
  rw [List.getElem?_eq_getElem hl] at hx
  injection hx with hx
  exact ⟨b, o, rfl, hb, hl, by rw [hc, hx]⟩
end

end Go.Proofs.YtdmlnoeneoomfaaDoor
