
/-
  Trees of any shape in memory. No program is named here.
-/
import Derived.Test.YtdmlnoeneoomfaaDoorS4
import Derived.Test.YtdmlnoeneoomfaaDoorL14
namespace Go.Proofs.YtdmlnoeneoomfaaDoor
open Go.RowKit

/-- A tree of any shape. -/
inductive Gx where
  | mk (op n : Int) (nm : ByteArray) (l : List Gx)
/-- A slice of elements of s cells each, each as Q says; its block lies in D. -/
def ElsG {α : Type} (D : Nat → Prop) (w : World) (s M : Nat) (Q : List Value → α → Prop) (A : Option Addr) (len : Nat) (ks : List α) : Prop :=
  ∃ xs : List Value, Reads w w.heap.size s A len xs ∧ (0 < len → ∀ a, A = some a → D a.block) ∧ len ≤ M ∧ ks.length = len ∧ ∀ i (h : i < ks.length), Q ((xs.drop (i * s)).take s) (ks[i]'h)
theorem Reads.keptD {D S : Nat → Prop} {w w' : World} {s n : Nat} {A : Option Addr} {xs : List Value} (h : Reads w w.heap.size s A n xs) (hd : 0 < n → ∀ a, A = some a → D a.block) (hk : Kept S w w') (hs : ∀ k, k < w.heap.size → D k → ¬ S k) : Reads w' w'.heap.size s A n xs :=
  ⟨h.1, fun hn => by
    obtain ⟨ad, e, hb, hc⟩ := h.2 hn
    exact ⟨ad, e, Nat.lt_of_lt_of_le hb hk.size, fun j u hu => by
      have e1 : (ad.add j).block = ad.block := by first | rfl | (unfold Addr.add; split <;> rfl)
      exact (hk.cell (p := ad.add j) (by rw [e1]; exact hb) (by rw [e1]; exact hs _ hb (hd hn ad e))).trans (hc j u hu)⟩⟩
theorem Reads.blk_lt {w : World} {B s n : Nat} {a : Addr} {xs : List Value} (h : Reads w B s (some a) n xs) (hn : 0 < n) : a.block < B := by
  obtain ⟨ad, e, hb, _⟩ := h.2 hn
  cases e
  exact hb
theorem ElsG.kept {α : Type} {D E S : Nat → Prop} {w w' : World} {s M : Nat} {Q Q' : List Value → α → Prop} {A : Option Addr} {len : Nat} {ks : List α} (h : ElsG D w s M Q A len ks) (hk : Kept S w w') (hs : ∀ k, k < w.heap.size → D k → ¬ S k) (hE : ∀ k, k < w.heap.size → D k → E k) (hq : ∀ cs k, Q cs k → Q' cs k) : ElsG E w' s M Q' A len ks := by
  obtain ⟨xs, h1, h0, h2, h3, h4⟩ := h
  exact ⟨xs, h1.keptD h0 hk hs, fun hn a ha => hE _ (by subst ha; exact h1.blk_lt hn) (h0 hn a ha), h2, h3, fun i hi => hq _ _ (h4 i hi)⟩
theorem ElsG.none_ {α : Type} (D : Nat → Prop) (w : World) (s M : Nat) (Q : List Value → α → Prop) (A : Option Addr) : ElsG D w s M Q A 0 [] := ⟨[], Reads.none_, fun h => absurd h (by omega), by omega, rfl, fun i hi => by simp at hi⟩
/-- The cells of a tree, at most n deep, whose parts lie in D; no list is longer than M. -/
def GC (D : Nat → Prop) (w : World) (M : Nat) : Nat → List Value → Gx → Prop
  | 0, _, _ => False
  | n + 1, cs, .mk op N nm l => ∃ (A : Option Addr) (len cap : Nat), cs = [.int .i64 op, .int .i64 N, .string nm, .slice A len cap] ∧ ElsG D w 4 M (GC D w M n) A len l
theorem GC.kept {D E S : Nat → Prop} {w w' : World} {M : Nat} (hk : Kept S w w') (hs : ∀ k, k < w.heap.size → D k → ¬ S k) (hE : ∀ k, k < w.heap.size → D k → E k) : ∀ (n : Nat) (cs : List Value) (g : Gx), GC D w M n cs g → GC E w' M n cs g
  | 0, _, _, h => h
  | n + 1, cs, .mk op N nm l, h => by
    obtain ⟨A, len, cap, h1, h2⟩ := h
    exact ⟨A, len, cap, h1, h2.kept hk hs hE (GC.kept hk hs hE n)⟩
theorem GC.below {D : Nat → Prop} {w w' : World} {M n : Nat} {cs : List Value} {g : Gx} (h : GC D w M n cs g) (hb : Below w.heap.size w w') : GC D w' M n cs g := GC.kept (Kept.of_below (S := fun _ => False) hb) (fun _ _ _ h => h) (fun _ _ h => h) n cs g h
theorem ElsG.below {D : Nat → Prop} {w w' : World} {M n len : Nat} {A : Option Addr} {l : List Gx} (h : ElsG D w 4 M (GC D w M n) A len l) (hb : Below w.heap.size w w') : ElsG D w' 4 M (GC D w' M n) A len l := h.kept (Kept.of_below (S := fun _ => False) hb) (fun _ _ _ h => h) (fun _ _ h => h) (fun _ _ h => h.below hb)
theorem GC.deep {D : Nat → Prop} {w : World} {M : Nat} : ∀ (n : Nat) (cs : List Value) (g : Gx), GC D w M n cs g → GC D w M (n + 1) cs g
  | 0, _, _, h => absurd h id
  | n + 1, cs, .mk op N nm l, h => by
    obtain ⟨A, len, cap, h1, h2⟩ := h
    exact ⟨A, len, cap, h1, h2.kept (Kept.refl (fun _ => False) _) (fun _ _ _ h => h) (fun _ _ h => h) (GC.deep n)⟩
theorem GC.deeper {D : Nat → Prop} {w : World} {M n m : Nat} (hm : n ≤ m) {cs : List Value} {g : Gx} (h : GC D w M n cs g) : GC D w M m cs g := by
  obtain ⟨d, rfl⟩ : ∃ d, m = n + d := ⟨m - n, by omega⟩
  induction d with
  | zero => exact h
  | succ d ih => exact GC.deep _ _ _ (ih (by omega))
theorem GC.form {D : Nat → Prop} {w : World} {M n : Nat} {cs : List Value} {g : Gx} (h : GC D w M n cs g) : ∃ (op N : Int) (nm : ByteArray) (A : Option Addr) (len cap : Nat), cs = [.int .i64 op, .int .i64 N, .string nm, .slice A len cap] := by
  cases n with
  | zero => exact absurd h id
  | succ n =>
    obtain ⟨op, N, nm, l⟩ := g
    obtain ⟨A, len, cap, h1, _⟩ := h
    exact ⟨op, N, nm, A, len, cap, h1⟩
/-- A parsed tree as one of any shape. -/
def Ex.gx : Ex → Gx
  | .num n => .mk 0 n ⟨#[]⟩ []
  | .nam s => .mk 1 0 (str s) []
  | .idx s e => .mk 2 0 (str s) [e.gx]
  | .neg e => .mk 3 0 ⟨#[]⟩ [e.gx]
  | .non e => .mk 4 0 ⟨#[]⟩ [e.gx]
  | .bin op a b => .mk op 0 ⟨#[]⟩ [a.gx, b.gx]
def Ex.dep : Ex → Nat
  | .num _ => 1
  | .nam _ => 1
  | .idx _ e => e.dep + 1
  | .neg e => e.dep + 1
  | .non e => e.dep + 1
  | .bin _ a b => max a.dep b.dep + 1
theorem TE.len4 {D : Nat → Prop} {w : World} {e : Ex} {cs : List Value} (h : TE D w e cs) : cs.length = 4 := by
  cases e with
  | num n => rw [show cs = _ from h]; rfl
  | nam s => rw [show cs = _ from h]; rfl
  | idx s e => obtain ⟨_, _, rfl, _⟩ := h; rfl
  | neg e => obtain ⟨_, _, rfl, _⟩ := h; rfl
  | non e => obtain ⟨_, _, rfl, _⟩ := h; rfl
  | bin op a b => obtain ⟨_, _, _, rfl, _⟩ := h; rfl
theorem els_one {D : Nat → Prop} {w : World} {b M : Nat} {t : TypeId} {c1 : List Value} {g : Gx} {n : Nat} (hM : 1 ≤ M) (hb : Blk w b t (List.toArray c1)) (hD : D b) (hl : c1.length = 4) (h : GC D w M n c1 g) : ElsG D w 4 M (GC D w M n) (some ⟨b, 0, none⟩) 1 [g] := by
  refine ⟨c1, ⟨by rw [hl], fun _ => ⟨_, rfl, hb.lt, fun j u hu => ?_⟩⟩, fun _ a ha => by cases ha; exact hD, hM, rfl, fun i hi => ?_⟩
  · rw [Addr.add_lit, Nat.zero_add, hb.cell j]
    simpa using hu
  · obtain rfl : i = 0 := by simp at hi; exact hi
    rw [Nat.zero_mul, List.drop_zero, List.take_of_length_le (by omega)]
    exact h
theorem els_two {D : Nat → Prop} {w : World} {b M : Nat} {t : TypeId} {c1 c2 : List Value} {g1 g2 : Gx} {n : Nat} (hM : 2 ≤ M) (hb : Blk w b t (List.toArray (c1 ++ c2))) (hD : D b) (hl : c1.length = 4) (hl2 : c2.length = 4) (h : GC D w M n c1 g1) (h2 : GC D w M n c2 g2) : ElsG D w 4 M (GC D w M n) (some ⟨b, 0, none⟩) 2 [g1, g2] := by
  refine ⟨c1 ++ c2, ⟨by rw [List.length_append, hl, hl2], fun _ => ⟨_, rfl, hb.lt, fun j u hu => ?_⟩⟩, fun _ a ha => by cases ha; exact hD, hM, rfl, fun i hi => ?_⟩
  · rw [Addr.add_lit, Nat.zero_add, hb.cell j]
    simpa using hu
  · match i, hi with
    | 0, _ =>
      rw [Nat.zero_mul, List.drop_zero, List.take_append_of_le_length (by omega), List.take_of_length_le (by omega)]
      exact h
    | 1, _ =>
      rw [Nat.one_mul, List.drop_append_of_le_length (by omega), List.drop_of_length_le (by omega), List.nil_append, List.take_of_length_le (by omega)]
      exact h2
    | i + 2, h => simp at h; omega
theorem TE.gc {D : Nat → Prop} {w : World} {M : Nat} (hM : 2 ≤ M) : ∀ (e : Ex) (cs : List Value), TE D w e cs → GC D w M e.dep cs e.gx
  | .num n, cs, h => ⟨none, 0, 0, h, ElsG.none_ _ _ _ _ _ _⟩
  | .nam s, cs, h => ⟨none, 0, 0, h, ElsG.none_ _ _ _ _ _ _⟩
  | .idx s e, cs, ⟨b, c1, h1, h2, h3, h4⟩ => ⟨_, 1, 1, h1, els_one (by omega) h3 h2 h4.len4 (TE.gc hM e c1 h4)⟩
  | .neg e, cs, ⟨b, c1, h1, h2, h3, h4⟩ => ⟨_, 1, 1, h1, els_one (by omega) h3 h2 h4.len4 (TE.gc hM e c1 h4)⟩
  | .non e, cs, ⟨b, c1, h1, h2, h3, h4⟩ => ⟨_, 1, 1, h1, els_one (by omega) h3 h2 h4.len4 (TE.gc hM e c1 h4)⟩
  | .bin op e f, cs, ⟨b, c1, c2, h1, h2, h3, h4, h5⟩ => ⟨_, 2, 2, h1, els_two hM h3 h2 h4.len4 h5.len4 ((TE.gc hM e c1 h4).deeper (Nat.le_max_left _ _)) ((TE.gc hM f c2 h5).deeper (Nat.le_max_right _ _))⟩
/-- An owned row of trees: their parts lie beside it, behind base. -/
def OwnG (w : World) (base : Nat) (t : TypeId) (M n : Nat) (v : Value) (l : List Gx) : Prop := ∃ ys : List Value, w.ownsRow base t 4 v l.length ys ∧ ys.length = l.length * 4 ∧ ∀ i (h : i < l.length), GC (fun z => base ≤ z ∧ v.ownBlock ≠ some z) w M n ((ys.drop (i * 4)).take 4) (l[i]'h)
theorem chunk_old {ys cs : List Value} {k i : Nat} (h : ys.length = k * 4) (hi : i < k) : ((ys ++ cs).drop (i * 4)).take 4 = (ys.drop (i * 4)).take 4 := by
  have : i * 4 + 4 ≤ k * 4 := by omega
  rw [List.drop_append_of_le_length (by omega), List.take_append_of_le_length (by rw [List.length_drop]; omega)]
theorem chunk_new {ys cs : List Value} {k : Nat} (h : ys.length = k * 4) (hc : cs.length = 4) : ((ys ++ cs).drop (k * 4)).take 4 = cs := by
  rw [List.drop_append_of_le_length (by omega), List.drop_of_length_le (by omega), List.nil_append, List.take_of_length_le (by omega)]
theorem own_lt {w : World} {base size n : Nat} {e : TypeId} {v : Value} {xs : List Value} (h : w.ownsRow base e size v n xs) : ∀ k, v.ownBlock = some k → k < w.heap.size := by
  intro k hk
  rcases h.2 with ⟨rfl, h0⟩ | ⟨g, cap, cur, rfl, hg, hh, _⟩
  · simp [Value.ownBlock] at hk
  · simp only [Value.ownBlock, Option.some.injEq] at hk
    subst hk
    exact Blk.lt (t := e) (cs := cur) hh
theorem own_ge {w : World} {base size n : Nat} {e : TypeId} {v : Value} {xs : List Value} (h : w.ownsRow base e size v n xs) : ∀ k, v.ownBlock = some k → base ≤ k := by
  intro k hk
  rcases h.2 with ⟨rfl, h0⟩ | ⟨g, cap, cur, rfl, hg, hh, _⟩
  · simp [Value.ownBlock] at hk
  · simp only [Value.ownBlock, Option.some.injEq] at hk
    subst hk
    exact hg
theorem own_is {w : World} {base size n : Nat} {e : TypeId} {v : Value} {xs : List Value} (h : w.ownsRow base e size v n xs) : ∃ A c, v = .slice A n c ∧ ∀ a, 0 < n → A = some a → v.ownBlock = some a.block := by
  rcases h.2 with ⟨rfl, h0⟩ | ⟨g, cap, cur, rfl, hg, hh, _⟩
  · exact ⟨none, 0, by rw [h0], fun a hn => by omega⟩
  · exact ⟨_, _, rfl, fun a _ ha => by cases ha; rfl⟩
theorem own_below {w w' : World} {base B size n : Nat} {e : TypeId} {v : Value} {xs : List Value} (h : w.ownsRow base e size v n xs) (hb : Below B w w') (hB : w.heap.size ≤ B) : w'.ownsRow base e size v n xs := by
  refine ⟨h.1, ?_⟩
  rcases h.2 with h2 | ⟨g, cap, cur, hv, hg, hh, r⟩
  · exact .inl h2
  · have hlt : g < w.heap.size := Blk.lt (t := e) (cs := cur) hh
    exact .inr ⟨g, cap, cur, hv, hg, (hb.block g (by omega)).trans hh, r⟩
theorem OwnG.els {w : World} {base : Nat} {t : TypeId} {M n len cap : Nat} {A : Option Addr} {l : List Gx} (h : OwnG w base t M n (.slice A len cap) l) (hl : l.length = len) (hM : len ≤ M) : ElsG (fun z => base ≤ z) w 4 M (GC (fun z => base ≤ z) w M n) A len l := by
  obtain ⟨ys, h1, h2, h3⟩ := h
  subst hl
  refine ⟨ys, Reads.of_own h1, fun hn a ha => ?_, hM, rfl, fun i hi => GC.kept (Kept.refl (fun _ => False) w) (fun _ _ _ h => h) (fun _ _ h => h.1) _ _ _ (h3 i hi)⟩
  obtain ⟨A', c', hv, hb⟩ := own_is h1
  simp only [Value.slice.injEq] at hv
  obtain ⟨rfl, _, _⟩ := hv
  exact own_ge h1 _ (hb a hn ha)
theorem OwnG.nil (w : World) (base : Nat) (t : TypeId) (M n : Nat) : OwnG w base t M n (.slice none 0 0) [] := ⟨[], World.ownsRow_nil _ _ _ _, rfl, fun i hi => by simp at hi⟩
/-- One more. -/
theorem OwnG.push {w w' : World} {base : Nat} {t : TypeId} {M n : Nat} {v v' : Value} {l : List Gx} {g : Gx} {ys cs : List Value} {D : Nat → Prop} (ho : w'.ownsRow base t 4 v' (l.length + 1) (ys ++ cs)) (h2 : ys.length = l.length * 4) (hc : cs.length = 4)
    (hold : ∀ i (h : i < l.length), GC (fun z => base ≤ z ∧ v.ownBlock ≠ some z) w M n ((ys.drop (i * 4)).take 4) (l[i]'h)) (hk : Kept (fun z => v.ownBlock = some z) w w') (hv : ∀ k, k < w.heap.size → v.ownBlock ≠ some k → v'.ownBlock ≠ some k)
    (hnew : GC D w' M n cs g) (hD : ∀ k, k < w'.heap.size → D k → base ≤ k ∧ v'.ownBlock ≠ some k) : OwnG w' base t M n v' (l ++ [g]) := by
  refine ⟨ys ++ cs, by rw [List.length_append, List.length_singleton]; exact ho, by rw [List.length_append, hc, h2, List.length_append, List.length_singleton]; omega, fun i hi => ?_⟩
  rw [List.length_append, List.length_singleton] at hi
  rcases Nat.lt_or_ge i l.length with h | h
  · rw [List.getElem_append_left h, chunk_old h2 h]
    exact GC.kept hk (fun k _ hd e => hd.2 e) (fun k hk hd => ⟨hd.1, hv k hk hd.2⟩) n _ _ (hold i h)
  · obtain rfl : i = l.length := by omega
    rw [List.getElem_append_right (by omega), chunk_new h2 hc]
    have := GC.kept (Kept.refl (fun _ => False) w') (fun _ _ _ h => h) hD n _ _ hnew
    simpa using this
end Go.Proofs.YtdmlnoeneoomfaaDoor
