
/-
  Words for memory used by all walks of this seat: a slice that reads as a list, append onto a row of the call's own, bytes. No program is named here. Frames: what of memory a call may have turned; blocks that are known whole; bytes in known blocks. No program is named here. package lex: what a byte may be; the longest beginning of a text. package lex: the longest beginning of a text. package lex: the number that a text is. Maps whose keys are texts and whose elements are true: sets.
-/
import Derived.WalkKit
import Derived.Below
import Derived.Laws.OwnMore
import Derived.Deep.AppendLies
import Derived.Deep.Draws
import Derived.Maps.AppendAt
import Derived.RegionTactic
import Derived.OwnWalk
import Derived.Lib.Hide
import Derived.Deep.QuietTactic
import Derived.BigQuiet
import Derived.Laws.Rows
import Derived.Test.YtdgekckedchjbaaGreatDoorProg
import Derived.WalkMore
import Derived.WalkSpells
import Derived.MapKept
import Derived.Laws.MakeOwn
namespace Go.Proofs.YtdgekckedchjbaaGreatDoor
open Go.RowKit

theorem block_of_add (a : Addr) (n : Nat) : (a.add n).block = a.block := by unfold Addr.add; split <;> rfl
theorem add_of_add (a : Addr) (i j : Nat) : (a.add i).add j = a.add (i + j) := by
  unfold Addr.add
  by_cases hi : i = 0 <;> by_cases hj : j = 0 <;> simp [hi, hj, Nat.add_assoc]

/-- The slice '.slice A n c' holds the cells xs (size cells an element) and lies below block B. -/
def Reads (w : World) (B size : Nat) (A : Option Addr) (n : Nat) (xs : List Value) : Prop :=
  xs.length = n * size ∧ (0 < n → ∃ ad, A = some ad ∧ ad.block < B ∧ ∀ j u, xs[j]? = some u → w.cell? (ad.add j) = some u)

section
variable {w w' : World} {B B' size n : Nat} {A : Option Addr} {xs : List Value}
theorem Reads.none_ : Reads w B size A 0 [] := ⟨by simp, fun h => absurd h (by omega)⟩
theorem Reads.at_ {k : Nat} (h : Reads w B 1 A n xs) (hk : k < n) : ∃ ad u, A = some ad ∧ ad.block < B ∧ xs[k]? = some u ∧ w.cell? (ad.add k) = some u := by
  obtain ⟨ad, e, hb, hc⟩ := h.2 (by omega)
  have hl : k < xs.length := by have := h.1; omega
  exact ⟨ad, xs[k], e, hb, List.getElem?_eq_getElem hl, hc k _ (List.getElem?_eq_getElem hl)⟩
theorem Reads.keep (h : Reads w B size A n xs) (hk : ∀ p : Addr, p.block < B → w'.cell? p = w.cell? p) : Reads w' B size A n xs :=
  ⟨h.1, fun hn => by
    obtain ⟨ad, e, hb, hc⟩ := h.2 hn
    exact ⟨ad, e, hb, fun j u hu => (hk _ (by rw [block_of_add]; exact hb)).trans (hc j u hu)⟩⟩
theorem Reads.more (h : Reads w B size A n xs) (hB : B ≤ B') : Reads w B' size A n xs :=
  ⟨h.1, fun hn => by
    obtain ⟨ad, e, hb, hc⟩ := h.2 hn
    exact ⟨ad, e, by omega, hc⟩⟩
theorem Reads.below (h : Reads w B size A n xs) (hb : Below B w w') : Reads w' B size A n xs := h.keep fun _ hp => hb.cell hp
theorem Reads.drew (h : Reads w B size A n xs) : Reads w.drew B size A n xs := h
theorem Reads.drewN (h : Reads w B size A n xs) (k : Nat) : Reads (w.drewN k) B size A n xs := h
theorem Reads.alloc (h : Reads w B size A n xs) (hB : B ≤ w.heap.size) (o : Obj) : Reads (w.alloc o) B size A n xs := h.keep fun p hp => World.cell?_alloc_lt w o p (by omega)
theorem Reads.setCell (h : Reads w B size A n xs) {p : Addr} (hB : B ≤ p.block) (u : Value) : Reads (w.setCell p u) B size A n xs :=
  h.keep fun q hq => World.cell?_setCell_other w p q u (fun e => by subst e; omega)
theorem Reads.grown (h : Reads w B size A n xs) {row : Option Nat} (hg : w.grownBy w' row) (hB : B ≤ w.heap.size) (hr : ∀ g, row = some g → B ≤ g) : Reads w' B size A n xs :=
  h.keep fun p hp => World.cell?_of_block (hg.block p.block (by omega) (fun e => by have := hr _ e.symm; omega))
theorem Reads.of_own {base : Nat} {e : TypeId} {c : Nat} (h : w.ownsRow base e size (.slice A n c) n xs) : Reads w w.heap.size size A n xs := by
  refine ⟨h.1, fun hn => ?_⟩
  obtain ⟨g, cap, hv, _, hlt⟩ := h.form hn
  have hA : A = some ⟨g, 0, none⟩ := by injection hv
  subst hA
  exact ⟨_, rfl, hlt, h.cells (g := g) rfl⟩
end

section
variable {P : Program} (w : World)

theorem run_append_of_nil (base : Nat) (t ty e : TypeId) (i : TypeInfo) (size : Nat) (ht : P.underlying t = some (.slice e)) (hi : P.info? e = some i)
    (v : Value) (n : Nat) (xs : List Value) (hown : w.ownsRow base e size v n xs) (c : Nat) : (Builtin.append_ #[t, t] ty #[v, .slice none 0 c]).run P w = .ok v w := by
  rcases hown.2 with ⟨rfl, rfl⟩ | ⟨g, cap, cur, rfl, _, _, hnc, _⟩
  · simp [Builtin.append_, run_underlying ht, sizeOf, typeInfo, hi, Builtin.lenOf, Builtin.firstCells]
  · simp [Builtin.append_, run_underlying ht, sizeOf, typeInfo, hi, Builtin.lenOf, Builtin.firstCells, hnc, storeCells]

theorem run_append_any (base : Nat) (t ty e : TypeId) (i : TypeInfo) (z : Value) (size bytes : Nat) (ht : P.underlying t = some (.slice e)) (hi : P.info? e = some i) (hz : i.zero = some z)
    (hsize : i.size = size) (hby : i.bytes = bytes) (hzs : z.cells.size = size) (hsz : 0 < size)
    (v : Value) (n : Nat) (xs : List Value) (hown : w.ownsRow base e size v n xs)
    (B : Nat) (A : Option Addr) (m c : Nat) (news : List Value) (hr : Reads w B size A m news) (h1 : ∀ u ∈ news, u.oneCell' = true)
    (h63 : n + m ≤ maxLen) (hbytes : (n + m) * bytes ≤ 140737488355328) (hbase : base ≤ w.heap.size) :
    ∃ v' w', (Builtin.append_ #[t, t] ty #[v, .slice A m c]).run P w = .ok v' w' ∧ w'.ownsRow base e size v' (n + m) (xs ++ news) ∧ w.grownBy w' v.ownBlock ∧
      (v'.ownBlock = v.ownBlock ∨ v'.ownBlock = some w.heap.size) := by
  rcases A with _ | ad
  · have hm : m = 0 := by
      rcases Nat.eq_zero_or_pos m with h0 | h0
      · exact h0
      · obtain ⟨ad, h, _⟩ := hr.2 h0
        cases h
    subst hm
    have hn : news = [] := List.eq_nil_of_length_eq_zero (by simpa using hr.1)
    subst hn
    exact ⟨v, w, run_append_of_nil w base t ty e i size ht hi v n xs hown c, by simpa using hown, World.grownBy.refl w _, .inl rfl⟩
  · have hcells : ∀ j u, news[j]? = some u → w.cell? (ad.add j) = some u := by
      intro j u hu
      rcases Nat.eq_zero_or_pos m with h0 | h0
      · subst h0
        have hn : news = [] := List.eq_nil_of_length_eq_zero (by simpa using hr.1)
        subst hn
        simp at hu
      · obtain ⟨ad', h, _, hc⟩ := hr.2 h0
        injection h with h
        subst h
        exact hc j u hu
    obtain ⟨v', w', hrun, h2, h3, _, h5⟩ := run_append_own_at (P := P) w base t ty e i z size bytes ht hi hz hsize hby hzs hsz v n xs hown ad m c news hr.1 hcells h1 h63 hbytes hbase
    exact ⟨v', w', hrun, h2, h3, h5⟩

theorem wp_append_any {o : Oper} {a : Act} {K : Act → World → Prop} {Q : Exit → Act → World → Prop} (s x : Operand) (t : TypeId)
    (ho : o.op = .call { callee := .builtin .append, args := #[s, x], argTypes := #[t, t] })
    (base : Nat) (e : TypeId) (i : TypeInfo) (z : Value) (size bytes : Nat) (ht : P.underlying t = some (.slice e)) (hi : P.info? e = some i) (hz : i.zero = some z)
    (hsize : i.size = size) (hby : i.bytes = bytes) (hzs : z.cells.size = size) (hsz : 0 < size)
    (v : Value) (n : Nat) (xs : List Value) (hs : a.eval s = v) (hown : w.ownsRow base e size v n xs)
    (B : Nat) (A : Option Addr) (m c : Nat) (news : List Value) (hx : a.eval x = .slice A m c) (hr : Reads w B size A m news) (h1 : ∀ u ∈ news, u.oneCell' = true)
    (h63 : n + m ≤ maxLen) (hbytes : (n + m) * bytes ≤ 140737488355328) (hbase : base ≤ w.heap.size)
    (h : ∀ v' w', w'.ownsRow base e size v' (n + m) (xs ++ news) → w.grownBy w' v.ownBlock → (v'.ownBlock = v.ownBlock ∨ v'.ownBlock = some w.heap.size) → K (a.put o.dst v') w') : o.wp P a w K Q := by
  obtain ⟨v', w', hrun, h2, h3, h4⟩ := run_append_any (P := P) w base t o.type e i z size bytes ht hi hz hsize hby hzs hsz v n xs hown B A m c news hr h1 h63 hbytes hbase
  unfold Oper.wp execOp
  simp only [ho, resolve, invoke, builtin, Sem.run_bind, Sem.run_pure, Result.andThen_ok, List.map_toArray, List.map_cons, List.map_nil, hs, hx, hrun]
  exact h v' w' h2 h3 h4

theorem wpList_append_any {ops : Array Oper} {rest : List Oper} {o : Oper} {a : Act} {Q : Exit → Act → World → Prop} (hgd : Region.wanted o (yielded ops a.tmps) = true) (s x : Operand) (t : TypeId)
    (ho : o.op = .call { callee := .builtin .append, args := #[s, x], argTypes := #[t, t] })
    (base : Nat) (e : TypeId) (i : TypeInfo) (z : Value) (size bytes : Nat) (ht : P.underlying t = some (.slice e)) (hi : P.info? e = some i) (hz : i.zero = some z)
    (hsize : i.size = size) (hby : i.bytes = bytes) (hzs : z.cells.size = size) (hsz : 0 < size)
    (v : Value) (n : Nat) (xs : List Value) (hs : a.eval s = v) (hown : w.ownsRow base e size v n xs)
    (B : Nat) (A : Option Addr) (m c : Nat) (news : List Value) (hx : a.eval x = .slice A m c) (hr : Reads w B size A m news) (h1 : ∀ u ∈ news, u.oneCell' = true)
    (h63 : n + m ≤ maxLen) (hbytes : (n + m) * bytes ≤ 140737488355328) (hbase : base ≤ w.heap.size)
    (h : ∀ v' w', w'.ownsRow base e size v' (n + m) (xs ++ news) → w.grownBy w' v.ownBlock → (v'.ownBlock = v.ownBlock ∨ v'.ownBlock = some w.heap.size) → wpList P ops Q rest (a.put o.dst v') w') : wpList P ops Q (o :: rest) a w :=
  BigFrame.wpList_want hgd fun _ hK => wp_append_any w s x t ho base e i z size bytes ht hi hz hsize hby hzs hsz v n xs hs hown B A m c news hx hr h1 h63 hbytes hbase fun v' w' h2 h3 h4 => hK _ _ (h v' w' h2 h3 h4)
end

/-- The cells of bytes. -/
def B8 (l : List UInt8) : List Value := l.map fun c => .int .u8 (c.toNat : Int)
theorem B8_length (l : List UInt8) : (B8 l).length = l.length := by simp [B8]
theorem B8_append (l m : List UInt8) : B8 (l ++ m) = B8 l ++ B8 m := by simp [B8]
theorem B8_at {l : List UInt8} {k : Nat} (h : k < l.length) : (B8 l)[k]? = some (.int .u8 ((l[k]'h).toNat : Int)) := by
  simp [B8, h]
/-- The slice '.slice A n c' holds the bytes l in w. -/
def RB (w : World) (A : Option Addr) (n : Nat) (l : List UInt8) : Prop := Reads w w.heap.size 1 A n (B8 l)
section
variable {w w' : World} {n : Nat} {A : Option Addr} {l : List UInt8}
theorem RB.len (h : RB w A n l) : n = l.length := by have := h.1; rw [B8_length] at this; omega
theorem RB.none_ : RB w A 0 [] := Reads.none_
theorem RB.below (h : RB w A n l) (hb : Below w.heap.size w w') : RB w' A n l := (Reads.below h hb).more hb.size
theorem RB.drew (h : RB w A n l) : RB w.drew A n l := h
theorem RB.drewN (h : RB w A n l) (k : Nat) : RB (w.drewN k) A n l := h
theorem RB.alloc (h : RB w A n l) (o : Obj) : RB (w.alloc o) A n l := (Reads.alloc h (Nat.le_refl _) o).more (by simp)
theorem RB.at_ {k : Nat} (h : RB w A n l) (hk : k < n) : ∃ b o, A = some ⟨b, o, none⟩ ∧ b < w.heap.size ∧ ∃ hl : k < l.length, w.cell? ⟨b, o + k, none⟩ = some (.int .u8 ((l[k]'hl).toNat : Int)) := by
  have hl : k < l.length := by have := h.len; omega
  obtain ⟨ad, u, rfl, hb, hx, hc⟩ := Reads.at_ h hk
  obtain ⟨ad0, u0, e0, _, _, hc0⟩ := Reads.at_ h (k := 0) (by omega)
  obtain rfl := Option.some.inj e0
  obtain ⟨b, o, spot⟩ := ad
  have hspot : spot = none := by simpa [Addr.add] using World.cell?_spot hc0
  subst hspot
  rw [Addr.add_lit] at hc
  rw [B8_at hl] at hx
  injection hx with hx
  exact ⟨b, o, rfl, hb, hl, by rw [hc, hx]⟩
theorem RB.of_own {base : Nat} {e : TypeId} {c : Nat} (h : w.ownsRow base e 1 (.slice A n c) n (B8 l)) : RB w A n l := Reads.of_own h
end

theorem _root_.Go.RowKit.Below.then_ {a b c : World} (h : Below a.heap.size a b) (k : Below b.heap.size b c) : Below a.heap.size a c := h.trans (k.mono h.size)
theorem _root_.Go.RowKit.Below.al {a b : World} (h : Below a.heap.size a b) (o : Obj) : Below a.heap.size a (b.alloc o) := h.alloc h.size o
theorem below_drewN {B : Nat} {a w : World} (h : Below B a w) (n : Nat) : Below B a (w.drewN n) := ⟨h.os, h.tape, h.output, h.size, h.block⟩
theorem bcell {W w1 : World} (hb : Below W.heap.size W w1) : (∀ b o, b < W.heap.size → w1.cell? ⟨b, o, none⟩ = W.cell? ⟨b, o, none⟩) ∧ (∀ b o, b < W.heap.size → w1.frozen? ⟨b, o, none⟩ = W.frozen? ⟨b, o, none⟩) :=
  ⟨fun b o h => hb.cell (p := ⟨b, o, none⟩) h, fun b o h => hb.frozen (p := ⟨b, o, none⟩) h⟩

/-- A call that says b and turns nothing that was there. -/
def Tells (w : World) (b : Bool) (e : Ending) (w' : World) : Prop := e = .returned (.bool b) ∧ Below w.heap.size w w'

end Go.Proofs.YtdgekckedchjbaaGreatDoor
namespace Go.Proofs.YtdgekckedchjbaaGreatDoor
open Go.RowKit

/-- Of the blocks that were there only those in S may have turned. -/
structure Kept (S : Nat → Prop) (w w' : World) : Prop where
  os : w'.os = w.os
  tape : w'.tape = w.tape
  output : w'.output = w.output
  size : w.heap.size ≤ w'.heap.size
  block : ∀ k, k < w.heap.size → ¬ S k → w'.heap[k]? = w.heap[k]?

section
variable {S T : Nat → Prop} {a b c w w' : World}
theorem Kept.refl (S : Nat → Prop) (w : World) : Kept S w w := ⟨rfl, rfl, rfl, Nat.le_refl _, fun _ _ _ => rfl⟩
theorem Kept.trans (h : Kept S a b) (k : Kept S b c) : Kept S a c :=
  ⟨k.os.trans h.os, k.tape.trans h.tape, k.output.trans h.output, Nat.le_trans h.size k.size, fun i hi hn => (k.block i (Nat.lt_of_lt_of_le hi h.size) hn).trans (h.block i hi hn)⟩
theorem Kept.mono (h : Kept S a b) (hs : ∀ k, k < a.heap.size → S k → T k) : Kept T a b := ⟨h.os, h.tape, h.output, h.size, fun k hk hn => h.block k hk (fun hS => hn (hs k hk hS))⟩
/-- What comes behind may turn what is new besides. -/
theorem Kept.then_ (h : Kept S a b) (k : Kept T b c) (hs : ∀ i, i < a.heap.size → T i → S i) : Kept S a c :=
  ⟨k.os.trans h.os, k.tape.trans h.tape, k.output.trans h.output, Nat.le_trans h.size k.size, fun i hi hn => (k.block i (Nat.lt_of_lt_of_le hi h.size) (fun hT => hn (hs i hi hT))).trans (h.block i hi hn)⟩
theorem Kept.drew (h : Kept S a b) : Kept S a b.drew := ⟨h.os, h.tape, h.output, h.size, h.block⟩
theorem Kept.drewN (h : Kept S a b) (n : Nat) : Kept S a (b.drewN n) := ⟨h.os, h.tape, h.output, h.size, h.block⟩
theorem Kept.alloc (h : Kept S a b) (o : Obj) : Kept S a (b.alloc o) :=
  ⟨h.os, h.tape, h.output, Nat.le_trans h.size (by simp), fun i hi hn => (Below.heap_alloc b o i (Nat.lt_of_lt_of_le hi h.size)).trans (h.block i hi hn)⟩
theorem Kept.setCell (h : Kept S a b) {p : Addr} (hp : p.block < a.heap.size → S p.block) (u : Value) : Kept S a (b.setCell p u) :=
  ⟨h.os, h.tape, h.output, by simpa [World.setCell] using h.size, fun i hi hn => (Below.heap_setCell b p u i (by rintro rfl; exact hn (hp hi))).trans (h.block i hi hn)⟩
theorem Kept.of_below (h : Below a.heap.size a b) : Kept S a b := ⟨h.os, h.tape, h.output, h.size, fun k hk _ => h.block k hk⟩
theorem Kept.below_ (h : Kept S a b) (k : Below b.heap.size b c) : Kept S a c := h.then_ (Kept.of_below (S := S) k) (fun _ _ h => h)
theorem Kept.of_grown {row : Option Nat} (h : a.grownBy b row) (hs : ∀ k, row = some k → S k) : Kept S a b :=
  ⟨h.os, h.tape, h.output, h.size, fun k hk hn => h.block k hk (fun e => hn (hs k e.symm))⟩
theorem Kept.to_below {B : Nat} (h : Kept S a b) (hB : B ≤ a.heap.size) (hs : ∀ k, k < B → ¬ S k) : Below B a b := ⟨h.os, h.tape, h.output, h.size, fun k hk => h.block k (by omega) (hs k hk)⟩
theorem Kept.cell (h : Kept S a b) {p : Addr} (hp : p.block < a.heap.size) (hn : ¬ S p.block) : b.cell? p = a.cell? p := World.cell?_of_block (h.block p.block hp hn)
theorem Kept.frozen (h : Kept S a b) {p : Addr} (hp : p.block < a.heap.size) (hn : ¬ S p.block) : b.frozen? p = a.frozen? p := World.frozen?_of_block (h.block p.block hp hn)
end

theorem quiet_left {P : Program} {f : FuncId} {args : Array Value} {w : World} {n : Nat} {v : Value}
    (h : Calls P f args (w.drewN n) fun e w' => e = .returned v ∧ w.drewN n = w') : Calls P f args (w.drewN n) fun e w'' => e = .returned v ∧ ∃ m, w'' = w.drewN m :=
  h.mono fun _ _ ⟨he, hm⟩ => ⟨he, n, hm.symm⟩
/-- Block g is just the cells cs of element type t, none frozen. -/
def Blk (w : World) (g : Nat) (t : TypeId) (cs : Array Value) : Prop := w.heap[g]? = some (.cells cs t (0, 0))
section
variable {w w' : World} {g : Nat} {t : TypeId} {cs : Array Value}
theorem Blk.lt (h : Blk w g t cs) : g < w.heap.size := by
  rcases Nat.lt_or_ge g w.heap.size with hlt | hge
  · exact hlt
  · unfold Blk at h; rw [Array.getElem?_eq_none hge] at h; cases h
theorem Blk.cell (h : Blk w g t cs) (i : Nat) : w.cell? ⟨g, i, none⟩ = cs[i]? := cell_of_row w g i cs t (0, 0) h
theorem Blk.frozen (h : Blk w g t cs) (i : Nat) : w.frozen? ⟨g, i, none⟩ = false := by
  unfold Blk at h
  simp [World.frozen?, h]
theorem Blk.new (w : World) (t : TypeId) (cs : Array Value) : Blk (w.alloc (.cells cs t)) w.heap.size t cs := heap_alloc_new w _
theorem Blk.drew (h : Blk w g t cs) : Blk w.drew g t cs := h
theorem Blk.drewN (h : Blk w g t cs) (n : Nat) : Blk (w.drewN n) g t cs := h
theorem Blk.alloc (h : Blk w g t cs) (o : Obj) : Blk (w.alloc o) g t cs := (Below.heap_alloc w o g h.lt).trans h
theorem Blk.set_ (h : Blk w g t cs) (i : Nat) (u : Value) : Blk (w.setCell ⟨g, i, none⟩ u) g t (cs.setIfInBounds i u) := by
  unfold Blk at h ⊢
  simp [World.setCell, Array.getElem?_modify, h]
theorem Blk.far (h : Blk w g t cs) {p : Addr} (hp : g ≠ p.block) (u : Value) : Blk (w.setCell p u) g t cs := (Below.heap_setCell w p u g hp).trans h
theorem Blk.below {B : Nat} (h : Blk w g t cs) (hb : Below B w w') (hg : g < B) : Blk w' g t cs := (hb.block g hg).trans h
theorem Blk.kept {S : Nat → Prop} (h : Blk w g t cs) (hb : Kept S w w') (hg : ¬ S g) : Blk w' g t cs := (hb.block g h.lt hg).trans h
end

/-- The slice '.slice A n c' holds the bytes l, in a block in D. -/
def RIn (D : Nat → Prop) (w : World) (A : Option Addr) (n : Nat) (l : List UInt8) : Prop :=
  n = l.length ∧ (0 < n → ∃ ad, A = some ad ∧ D ad.block ∧ ad.block < w.heap.size ∧ ∀ j u, (B8 l)[j]? = some u → w.cell? (ad.add j) = some u)
section
variable {D S : Nat → Prop} {w w' : World} {A : Option Addr} {n : Nat} {l : List UInt8}
theorem RIn.rb (h : RIn D w A n l) : RB w A n l := by
  refine ⟨by rw [B8_length, h.1, Nat.mul_one], fun hn => ?_⟩
  obtain ⟨ad, e, _, hb, hc⟩ := h.2 hn
  exact ⟨ad, e, hb, hc⟩
theorem RIn.kept (h : RIn D w A n l) (hk : Kept S w w') (hs : ∀ k, D k → ¬ S k) : RIn D w' A n l := by
  refine ⟨h.1, fun hn => ?_⟩
  obtain ⟨ad, e, hd, hb, hc⟩ := h.2 hn
  exact ⟨ad, e, hd, by have := hk.size; omega, fun j u hu => (hk.cell (by rw [block_of_add]; exact hb) (by rw [block_of_add]; exact hs _ hd)).trans (hc j u hu)⟩
theorem RIn.mono {E : Nat → Prop} (h : RIn D w A n l) (hd : ∀ k, k < w.heap.size → D k → E k) : RIn E w A n l := by
  refine ⟨h.1, fun hn => ?_⟩
  obtain ⟨ad, e, hD, hb, hc⟩ := h.2 hn
  exact ⟨ad, e, hd _ hb hD, hb, hc⟩
end

/-- The slice '.slice A n c' holds the values xs in w, one cell each. -/
def RV (w : World) (A : Option Addr) (n : Nat) (xs : List Value) : Prop := Reads w w.heap.size 1 A n xs
section
variable {w w' : World} {n : Nat} {A : Option Addr} {xs : List Value}
theorem RV.len (h : RV w A n xs) : n = xs.length := by have := h.1; omega
theorem RV.below (h : RV w A n xs) (hb : Below w.heap.size w w') : RV w' A n xs := (Reads.below h hb).more hb.size
theorem RV.drewN (h : RV w A n xs) (k : Nat) : RV (w.drewN k) A n xs := h
theorem RV.at_ {k : Nat} (h : RV w A n xs) (hk : k < n) : ∃ b o, A = some ⟨b, o, none⟩ ∧ b < w.heap.size ∧ ∃ hl : k < xs.length, w.cell? ⟨b, o + k, none⟩ = some (xs[k]'hl) := by
  have hl : k < xs.length := by have := h.len; omega
  obtain ⟨ad, u, rfl, hb, hx, hc⟩ := Reads.at_ h hk
  obtain ⟨ad0, u0, e0, _, _, hc0⟩ := Reads.at_ h (k := 0) (by omega)
  obtain rfl := Option.some.inj e0
  obtain ⟨b, o, spot⟩ := ad
  have hspot : spot = none := by simpa [Addr.add] using World.cell?_spot hc0
  subst hspot
  rw [Addr.add_lit] at hc
  rw [List.getElem?_eq_getElem hl] at hx
  injection hx with hx
  exact ⟨b, o, rfl, hb, hl, by rw [hc, hx]⟩
end

end Go.Proofs.YtdgekckedchjbaaGreatDoor
namespace Go.Proofs.YtdgekckedchjbaaGreatDoor
open Go.RowKit

def letB (c : UInt8) : Bool := decide (97 ≤ c.toNat ∧ c.toNat ≤ 122 ∨ 65 ≤ c.toNat ∧ c.toNat ≤ 90)
def digB (c : UInt8) : Bool := decide (48 ≤ c.toNat ∧ c.toNat ≤ 57)
def innB (c : UInt8) : Bool := letB c || digB c || decide (c.toNat = 95)
def nlB (c : UInt8) : Bool := decide (c.toNat ≠ 10)
theorem digB_t {c : UInt8} : digB c = true ↔ 48 ≤ c.toNat ∧ c.toNat ≤ 57 := by simp [digB]
theorem ret_bool {a b : Bool} (h : a = b) : Ending.returned (.bool a) = .returned (.bool b) := by rw [h]
set_option maxHeartbeats 1000000 in
theorem letter_any (c : UInt8) (w : World) : Calls Tryz.prog 126 #[.int .u8 (c.toNat : Int)] w fun e w' => e = .returned (.bool (letB c)) ∧ w = w' := by
  obtain ⟨x, hx⟩ : ∃ x, c.toNat = x := ⟨_, rfl⟩
  have h5 : x < 65 ∨ (65 ≤ x ∧ x ≤ 90) ∨ (90 < x ∧ x < 97) ∨ (97 ≤ x ∧ x ≤ 122) ∨ 122 < x := by omega
  have hb : Hid (letB c = decide (97 ≤ x ∧ x ≤ 122 ∨ 65 ≤ x ∧ x ≤ 90)) := by rw [← hx]; rfl
  rw [hx]
  clear hx
  rcases h5 with h | ⟨h, h'⟩ | ⟨h, h'⟩ | ⟨h, h'⟩ | h
  · have t1 : decide ((97 : Int) ≤ (x : Int)) = false := by simp; omega
    have t2 : decide ((x : Int) ≤ 122) = true := by simp; omega
    have t3 : decide ((65 : Int) ≤ (x : Int)) = false := by simp; omega
    have t4 : decide ((x : Int) ≤ 90) = true := by simp; omega
    go_enter Tryz.func126, Tryz.ntmps126
    go_wp2
    go_ret
    refine ⟨?_, rfl⟩
    rw [hb.out, show decide (97 ≤ x ∧ x ≤ 122 ∨ 65 ≤ x ∧ x ≤ 90) = false from by simp; omega]
    rfl
  · have t1 : decide ((97 : Int) ≤ (x : Int)) = false := by simp; omega
    have t2 : decide ((x : Int) ≤ 122) = true := by simp; omega
    have t3 : decide ((65 : Int) ≤ (x : Int)) = true := by simp; omega
    have t4 : decide ((x : Int) ≤ 90) = true := by simp; omega
    go_enter Tryz.func126, Tryz.ntmps126
    go_wp2
    go_ret
    refine ⟨?_, rfl⟩
    rw [hb.out, show decide (97 ≤ x ∧ x ≤ 122 ∨ 65 ≤ x ∧ x ≤ 90) = true from by simp; omega]
    rfl
  · have t1 : decide ((97 : Int) ≤ (x : Int)) = false := by simp; omega
    have t2 : decide ((x : Int) ≤ 122) = true := by simp; omega
    have t3 : decide ((65 : Int) ≤ (x : Int)) = true := by simp; omega
    have t4 : decide ((x : Int) ≤ 90) = false := by simp; omega
    go_enter Tryz.func126, Tryz.ntmps126
    go_wp2
    go_ret
    refine ⟨?_, rfl⟩
    rw [hb.out, show decide (97 ≤ x ∧ x ≤ 122 ∨ 65 ≤ x ∧ x ≤ 90) = false from by simp; omega]
    rfl
  · have t1 : decide ((97 : Int) ≤ (x : Int)) = true := by simp; omega
    have t2 : decide ((x : Int) ≤ 122) = true := by simp; omega
    have t3 : decide ((65 : Int) ≤ (x : Int)) = true := by simp; omega
    have t4 : decide ((x : Int) ≤ 90) = false := by simp; omega
    go_enter Tryz.func126, Tryz.ntmps126
    go_wp2
    go_ret
    refine ⟨?_, rfl⟩
    rw [hb.out, show decide (97 ≤ x ∧ x ≤ 122 ∨ 65 ≤ x ∧ x ≤ 90) = true from by simp; omega]
    rfl
  · have t1 : decide ((97 : Int) ≤ (x : Int)) = true := by simp; omega
    have t2 : decide ((x : Int) ≤ 122) = false := by simp; omega
    have t3 : decide ((65 : Int) ≤ (x : Int)) = true := by simp; omega
    have t4 : decide ((x : Int) ≤ 90) = false := by simp; omega
    go_enter Tryz.func126, Tryz.ntmps126
    go_wp2
    go_ret
    refine ⟨?_, rfl⟩
    rw [hb.out, show decide (97 ≤ x ∧ x ≤ 122 ∨ 65 ≤ x ∧ x ≤ 90) = false from by simp; omega]
    rfl
set_option maxHeartbeats 1000000 in
theorem refLetter_any (c : UInt8) (w : World) : Calls Tryz.prog 113 #[.int .u8 (c.toNat : Int)] w fun e w' => e = .returned (.bool (letB c)) ∧ w = w' := by
  obtain ⟨x, hx⟩ : ∃ x, c.toNat = x := ⟨_, rfl⟩
  have h5 : x < 65 ∨ (65 ≤ x ∧ x ≤ 90) ∨ (90 < x ∧ x < 97) ∨ (97 ≤ x ∧ x ≤ 122) ∨ 122 < x := by omega
  have hb : Hid (letB c = decide (97 ≤ x ∧ x ≤ 122 ∨ 65 ≤ x ∧ x ≤ 90)) := by rw [← hx]; rfl
  rw [hx]
  clear hx
  rcases h5 with h | ⟨h, h'⟩ | ⟨h, h'⟩ | ⟨h, h'⟩ | h
  · have t1 : decide ((97 : Int) ≤ (x : Int)) = false := by simp; omega
    have t2 : decide ((x : Int) ≤ 122) = true := by simp; omega
    have t3 : decide ((65 : Int) ≤ (x : Int)) = false := by simp; omega
    have t4 : decide ((x : Int) ≤ 90) = true := by simp; omega
    go_enter Tryz.func113, Tryz.ntmps113
    go_wp2
    go_ret
    refine ⟨?_, rfl⟩
    rw [hb.out, show decide (97 ≤ x ∧ x ≤ 122 ∨ 65 ≤ x ∧ x ≤ 90) = false from by simp; omega]
    rfl
  · have t1 : decide ((97 : Int) ≤ (x : Int)) = false := by simp; omega
    have t2 : decide ((x : Int) ≤ 122) = true := by simp; omega
    have t3 : decide ((65 : Int) ≤ (x : Int)) = true := by simp; omega
    have t4 : decide ((x : Int) ≤ 90) = true := by simp; omega
    go_enter Tryz.func113, Tryz.ntmps113
    go_wp2
    go_ret
    refine ⟨?_, rfl⟩
    rw [hb.out, show decide (97 ≤ x ∧ x ≤ 122 ∨ 65 ≤ x ∧ x ≤ 90) = true from by simp; omega]
    rfl
  · have t1 : decide ((97 : Int) ≤ (x : Int)) = false := by simp; omega
    have t2 : decide ((x : Int) ≤ 122) = true := by simp; omega
    have t3 : decide ((65 : Int) ≤ (x : Int)) = true := by simp; omega
    have t4 : decide ((x : Int) ≤ 90) = false := by simp; omega
    go_enter Tryz.func113, Tryz.ntmps113
    go_wp2
    go_ret
    refine ⟨?_, rfl⟩
    rw [hb.out, show decide (97 ≤ x ∧ x ≤ 122 ∨ 65 ≤ x ∧ x ≤ 90) = false from by simp; omega]
    rfl
  · have t1 : decide ((97 : Int) ≤ (x : Int)) = true := by simp; omega
    have t2 : decide ((x : Int) ≤ 122) = true := by simp; omega
    have t3 : decide ((65 : Int) ≤ (x : Int)) = true := by simp; omega
    have t4 : decide ((x : Int) ≤ 90) = false := by simp; omega
    go_enter Tryz.func113, Tryz.ntmps113
    go_wp2
    go_ret
    refine ⟨?_, rfl⟩
    rw [hb.out, show decide (97 ≤ x ∧ x ≤ 122 ∨ 65 ≤ x ∧ x ≤ 90) = true from by simp; omega]
    rfl
  · have t1 : decide ((97 : Int) ≤ (x : Int)) = true := by simp; omega
    have t2 : decide ((x : Int) ≤ 122) = false := by simp; omega
    have t3 : decide ((65 : Int) ≤ (x : Int)) = true := by simp; omega
    have t4 : decide ((x : Int) ≤ 90) = false := by simp; omega
    go_enter Tryz.func113, Tryz.ntmps113
    go_wp2
    go_ret
    refine ⟨?_, rfl⟩
    rw [hb.out, show decide (97 ≤ x ∧ x ≤ 122 ∨ 65 ≤ x ∧ x ≤ 90) = false from by simp; omega]
    rfl
set_option maxHeartbeats 1000000 in
theorem digit_any (c : UInt8) (w : World) : Calls Tryz.prog 127 #[.int .u8 (c.toNat : Int)] w fun e w' => e = .returned (.bool (digB c)) ∧ w = w' := by
  obtain ⟨x, hx⟩ : ∃ x, c.toNat = x := ⟨_, rfl⟩
  have h5 : x < 48 ∨ (48 ≤ x ∧ x ≤ 57) ∨ 57 < x := by omega
  have hb : Hid (digB c = decide (48 ≤ x ∧ x ≤ 57)) := by rw [← hx]; rfl
  rw [hx]
  clear hx
  rcases h5 with h | ⟨h, h'⟩ | h
  · have t1 : decide ((48 : Int) ≤ (x : Int)) = false := by simp; omega
    have t2 : decide ((x : Int) ≤ 57) = true := by simp; omega
    go_enter Tryz.func127, Tryz.ntmps127
    go_wp2
    go_ret
    refine ⟨?_, rfl⟩
    rw [hb.out, show decide (48 ≤ x ∧ x ≤ 57) = false from by simp; omega]
    rfl
  · have t1 : decide ((48 : Int) ≤ (x : Int)) = true := by simp; omega
    have t2 : decide ((x : Int) ≤ 57) = true := by simp; omega
    go_enter Tryz.func127, Tryz.ntmps127
    go_wp2
    go_ret
    refine ⟨?_, rfl⟩
    rw [hb.out, show decide (48 ≤ x ∧ x ≤ 57) = true from by simp; omega]
    rfl
  · have t1 : decide ((48 : Int) ≤ (x : Int)) = true := by simp; omega
    have t2 : decide ((x : Int) ≤ 57) = false := by simp; omega
    go_enter Tryz.func127, Tryz.ntmps127
    go_wp2
    go_ret
    refine ⟨?_, rfl⟩
    rw [hb.out, show decide (48 ≤ x ∧ x ≤ 57) = false from by simp; omega]
    rfl
set_option maxHeartbeats 1000000 in
theorem refDigit_any (c : UInt8) (w : World) : Calls Tryz.prog 114 #[.int .u8 (c.toNat : Int)] w fun e w' => e = .returned (.bool (digB c)) ∧ w = w' := by
  obtain ⟨x, hx⟩ : ∃ x, c.toNat = x := ⟨_, rfl⟩
  have h5 : x < 48 ∨ (48 ≤ x ∧ x ≤ 57) ∨ 57 < x := by omega
  have hb : Hid (digB c = decide (48 ≤ x ∧ x ≤ 57)) := by rw [← hx]; rfl
  rw [hx]
  clear hx
  rcases h5 with h | ⟨h, h'⟩ | h
  · have t1 : decide ((48 : Int) ≤ (x : Int)) = false := by simp; omega
    have t2 : decide ((x : Int) ≤ 57) = true := by simp; omega
    go_enter Tryz.func114, Tryz.ntmps114
    go_wp2
    go_ret
    refine ⟨?_, rfl⟩
    rw [hb.out, show decide (48 ≤ x ∧ x ≤ 57) = false from by simp; omega]
    rfl
  · have t1 : decide ((48 : Int) ≤ (x : Int)) = true := by simp; omega
    have t2 : decide ((x : Int) ≤ 57) = true := by simp; omega
    go_enter Tryz.func114, Tryz.ntmps114
    go_wp2
    go_ret
    refine ⟨?_, rfl⟩
    rw [hb.out, show decide (48 ≤ x ∧ x ≤ 57) = true from by simp; omega]
    rfl
  · have t1 : decide ((48 : Int) ≤ (x : Int)) = true := by simp; omega
    have t2 : decide ((x : Int) ≤ 57) = false := by simp; omega
    go_enter Tryz.func114, Tryz.ntmps114
    go_wp2
    go_ret
    refine ⟨?_, rfl⟩
    rw [hb.out, show decide (48 ≤ x ∧ x ≤ 57) = false from by simp; omega]
    rfl

set_option maxHeartbeats 1000000 in
theorem nl_any (c : UInt8) (w : World) : Calls Tryz.prog 84 #[.int .u8 (c.toNat : Int)] w fun e w' => e = .returned (.bool (nlB c)) ∧ w = w' := by
  go_enter Tryz.func84, Tryz.ntmps84
  go_wp2
  go_ret
  refine ⟨ret_bool ?_, rfl⟩
  rw [Bool.eq_iff_iff]
  simp [nlB]
  omega
set_option maxHeartbeats 1000000 in
theorem inner_any (c : UInt8) (w : World) : Calls Tryz.prog 125 #[.int .u8 (c.toNat : Int)] w fun e w' => e = .returned (.bool (innB c)) ∧ w = w' := by
  have hi : Hid (innB c = (letB c || digB c || decide (c.toNat = 95))) := rfl
  cases h1 : letB c <;> cases h2 : digB c
  all_goals
    have H1 := Lib.hid h1
    have H2 := Lib.hid h2
    clear h1 h2
    go_enter Tryz.func125, Tryz.ntmps125
    go_wp2_with fail
    refine (letter_any c w).mono ?_
    rintro e w' ⟨rfl, rfl⟩
    rw [H1.out]
    go_wp2_with (first | (go_at_call 127; refine (digit_any c _).mono ?_; rintro e w' ⟨rfl, rfl⟩; rw [H2.out]))
    go_ret
    refine ⟨?_, rfl⟩
    rw [hi.out, H1.out, H2.out]
    first | rfl | exact ret_bool (by rw [Bool.eq_iff_iff]; simp; omega)
end Go.Proofs.YtdgekckedchjbaaGreatDoor
namespace Go.Proofs.YtdgekckedchjbaaGreatDoor
open Go.RowKit

/-- How many bytes the longest beginning has whose bytes are all so. -/
def preN (p : UInt8 → Bool) (l : List UInt8) : Nat := (l.takeWhile p).length
theorem preN_le (p : UInt8 → Bool) (l : List UInt8) : preN p l ≤ l.length := by
  unfold preN
  exact (List.takeWhile_sublist p).length_le
theorem preN_eq {p : UInt8 → Bool} {l : List UInt8} {k : Nat} (hk : k ≤ l.length) (h1 : ∀ j (hj : j < l.length), j < k → p (l[j]'hj) = true) (h2 : ∀ hj : k < l.length, p (l[k]'hj) = false) : preN p l = k := by
  unfold preN
  induction l generalizing k with
  | nil => simp at hk; simp [hk]
  | cons c l ih =>
    rcases k with _ | k
    · have := h2 (by simp)
      simp at this
      simp [this]
    · have h0 := h1 0 (by simp) (by omega)
      simp at h0
      have := ih (k := k) (by simpa using hk) (fun j hj hjk => by have := h1 (j + 1) (by simpa using hj) (by omega); simpa using this) (fun hj => by have := h2 (by simpa using hj); simpa using this)
      simp [h0, this]

theorem ext_all (s : ByteArray) : s.extract 0 s.size = s := by
  first | exact ByteArray.extract_zero_size | simp

set_option maxHeartbeats 1000000 in
set_option maxRecDepth 100000 in
theorem runInner_any (s : ByteArray) (w : World) (hs : s.size ≤ 9223372036854775807) :
    Calls Tryz.prog 83 #[.string s, .func (.func 125) #[] #[]] w fun e w' => e = .returned (.string (s.extract 0 (preN innB s.data.toList))) ∧ w = w' := by
  have hlen : s.data.toList.length = s.size := Array.length_toList
  have HL := Lib.hid hlen
  clear hlen
  go_enter Tryz.func83, Tryz.ntmps83
  go_wp2
  go_loop [5] (fun i => ∃ k : Nat, k ≤ s.size ∧ i = .int .i64 k ∧ Hid (∀ j (hj : j < s.data.toList.length), j < k → innB (s.data.toList[j]'hj) = true)) (fun i => s.size - (intOf i).toNat)
  case atStart => exact ⟨0, by omega, rfl, fun j hj h => absurd h (by omega)⟩
  case round =>
    obtain ⟨k, hk, rfl, hp⟩ := hrel
    by_cases hlt : k < s.size
    · obtain ⟨c, hcc⟩ : ∃ c : UInt8, s[k] = c := ⟨_, rfl⟩
      have hq : ∃ hj : k < s.data.toList.length, s.data.toList[k]'hj = c := ⟨by rw [HL.out]; exact hlt, by rw [← hcc]; rfl⟩
      have HQ := Lib.hid hq
      clear hq
      cases hpc : innB c
      · have HP := Lib.hid hpc
        clear hpc
        go_wp2_with fail
        refine (inner_any c w).mono ?_
        rintro e w' ⟨rfl, rfl⟩
        rw [HP.out]
        have hpre : preN innB s.data.toList = k := preN_eq (by rw [HL.out]; exact hk) hp.out (fun hj => by obtain ⟨_, h⟩ := HQ.out; rw [h]; exact HP.out)
        have HPRE := Lib.hid hpre
        clear hpre hcc
        go_wp2_with fail
        go_ret
        exact ⟨by rw [HPRE.out]; rfl, rfl⟩
      · have HP := Lib.hid hpc
        clear hpc
        go_wp2_with fail
        refine (inner_any c w).mono ?_
        rintro e w' ⟨rfl, rfl⟩
        rw [HP.out]
        clear hcc
        go_wp2_with fail
        go_round
        case rel => exact ⟨k + 1, by omega, by go_num, fun j hj h => by
          rcases Nat.lt_or_ge j k with h1 | h1
          · exact hp.out j hj h1
          · obtain rfl : j = k := by omega
            obtain ⟨_, h2⟩ := HQ.out
            rw [h2]
            exact HP.out⟩
        case measure => simp [intOf]; omega
    · obtain rfl : k = s.size := by omega
      have hpre : preN innB s.data.toList = s.size := preN_eq (by rw [HL.out]; exact hk) hp.out (fun hj => by rw [HL.out] at hj; omega)
      have HPRE := Lib.hid hpre
      clear hpre
      go_wp2_with fail
      go_ret
      exact ⟨by rw [HPRE.out, ext_all]; rfl, rfl⟩
set_option maxHeartbeats 1000000 in
set_option maxRecDepth 100000 in
theorem runDigit_any (s : ByteArray) (w : World) (hs : s.size ≤ 9223372036854775807) :
    Calls Tryz.prog 83 #[.string s, .func (.func 127) #[] #[]] w fun e w' => e = .returned (.string (s.extract 0 (preN digB s.data.toList))) ∧ w = w' := by
  have hlen : s.data.toList.length = s.size := Array.length_toList
  have HL := Lib.hid hlen
  clear hlen
  go_enter Tryz.func83, Tryz.ntmps83
  go_wp2
  go_loop [5] (fun i => ∃ k : Nat, k ≤ s.size ∧ i = .int .i64 k ∧ Hid (∀ j (hj : j < s.data.toList.length), j < k → digB (s.data.toList[j]'hj) = true)) (fun i => s.size - (intOf i).toNat)
  case atStart => exact ⟨0, by omega, rfl, fun j hj h => absurd h (by omega)⟩
  case round =>
    obtain ⟨k, hk, rfl, hp⟩ := hrel
    by_cases hlt : k < s.size
    · obtain ⟨c, hcc⟩ : ∃ c : UInt8, s[k] = c := ⟨_, rfl⟩
      have hq : ∃ hj : k < s.data.toList.length, s.data.toList[k]'hj = c := ⟨by rw [HL.out]; exact hlt, by rw [← hcc]; rfl⟩
      have HQ := Lib.hid hq
      clear hq
      cases hpc : digB c
      · have HP := Lib.hid hpc
        clear hpc
        go_wp2_with fail
        refine (digit_any c w).mono ?_
        rintro e w' ⟨rfl, rfl⟩
        rw [HP.out]
        have hpre : preN digB s.data.toList = k := preN_eq (by rw [HL.out]; exact hk) hp.out (fun hj => by obtain ⟨_, h⟩ := HQ.out; rw [h]; exact HP.out)
        have HPRE := Lib.hid hpre
        clear hpre hcc
        go_wp2_with fail
        go_ret
        exact ⟨by rw [HPRE.out]; rfl, rfl⟩
      · have HP := Lib.hid hpc
        clear hpc
        go_wp2_with fail
        refine (digit_any c w).mono ?_
        rintro e w' ⟨rfl, rfl⟩
        rw [HP.out]
        clear hcc
        go_wp2_with fail
        go_round
        case rel => exact ⟨k + 1, by omega, by go_num, fun j hj h => by
          rcases Nat.lt_or_ge j k with h1 | h1
          · exact hp.out j hj h1
          · obtain rfl : j = k := by omega
            obtain ⟨_, h2⟩ := HQ.out
            rw [h2]
            exact HP.out⟩
        case measure => simp [intOf]; omega
    · obtain rfl : k = s.size := by omega
      have hpre : preN digB s.data.toList = s.size := preN_eq (by rw [HL.out]; exact hk) hp.out (fun hj => by rw [HL.out] at hj; omega)
      have HPRE := Lib.hid hpre
      clear hpre
      go_wp2_with fail
      go_ret
      exact ⟨by rw [HPRE.out, ext_all]; rfl, rfl⟩
set_option maxHeartbeats 1000000 in
set_option maxRecDepth 100000 in
theorem runNl_any (s : ByteArray) (w : World) (hs : s.size ≤ 9223372036854775807) :
    Calls Tryz.prog 83 #[.string s, .func (.func 84) #[] #[]] w fun e w' => e = .returned (.string (s.extract 0 (preN nlB s.data.toList))) ∧ w = w' := by
  have hlen : s.data.toList.length = s.size := Array.length_toList
  have HL := Lib.hid hlen
  clear hlen
  go_enter Tryz.func83, Tryz.ntmps83
  go_wp2
  go_loop [5] (fun i => ∃ k : Nat, k ≤ s.size ∧ i = .int .i64 k ∧ Hid (∀ j (hj : j < s.data.toList.length), j < k → nlB (s.data.toList[j]'hj) = true)) (fun i => s.size - (intOf i).toNat)
  case atStart => exact ⟨0, by omega, rfl, fun j hj h => absurd h (by omega)⟩
  case round =>
    obtain ⟨k, hk, rfl, hp⟩ := hrel
    by_cases hlt : k < s.size
    · obtain ⟨c, hcc⟩ : ∃ c : UInt8, s[k] = c := ⟨_, rfl⟩
      have hq : ∃ hj : k < s.data.toList.length, s.data.toList[k]'hj = c := ⟨by rw [HL.out]; exact hlt, by rw [← hcc]; rfl⟩
      have HQ := Lib.hid hq
      clear hq
      cases hpc : nlB c
      · have HP := Lib.hid hpc
        clear hpc
        go_wp2_with fail
        refine (nl_any c w).mono ?_
        rintro e w' ⟨rfl, rfl⟩
        rw [HP.out]
        have hpre : preN nlB s.data.toList = k := preN_eq (by rw [HL.out]; exact hk) hp.out (fun hj => by obtain ⟨_, h⟩ := HQ.out; rw [h]; exact HP.out)
        have HPRE := Lib.hid hpre
        clear hpre hcc
        go_wp2_with fail
        go_ret
        exact ⟨by rw [HPRE.out]; rfl, rfl⟩
      · have HP := Lib.hid hpc
        clear hpc
        go_wp2_with fail
        refine (nl_any c w).mono ?_
        rintro e w' ⟨rfl, rfl⟩
        rw [HP.out]
        clear hcc
        go_wp2_with fail
        go_round
        case rel => exact ⟨k + 1, by omega, by go_num, fun j hj h => by
          rcases Nat.lt_or_ge j k with h1 | h1
          · exact hp.out j hj h1
          · obtain rfl : j = k := by omega
            obtain ⟨_, h2⟩ := HQ.out
            rw [h2]
            exact HP.out⟩
        case measure => simp [intOf]; omega
    · obtain rfl : k = s.size := by omega
      have hpre : preN nlB s.data.toList = s.size := preN_eq (by rw [HL.out]; exact hk) hp.out (fun hj => by rw [HL.out] at hj; omega)
      have HPRE := Lib.hid hpre
      clear hpre
      go_wp2_with fail
      go_ret
      exact ⟨by rw [HPRE.out, ext_all]; rfl, rfl⟩
end Go.Proofs.YtdgekckedchjbaaGreatDoor
namespace Go.Proofs.YtdgekckedchjbaaGreatDoor
open Go.RowKit

/-- The number of digits; past 2147483647: the error. -/
def numF (a : Int) : List UInt8 → Int × Int
  | [] => (a, 0)
  | c :: r => if 10 * a + ((c.toNat : Int) - 48) > 2147483647 then (0, 2) else numF (10 * a + ((c.toNat : Int) - 48)) r
def numS (l : List UInt8) : Int × Int := if l = [] ∨ preN digB l ≠ l.length ∨ (1 < l.length ∧ l.head? = some 48) then (0, 3) else numF 0 l
/-- Two results. -/
theorem size_list (s : ByteArray) : s.data.toList.length = s.size := Array.length_toList
theorem at_list (s : ByteArray) {k : Nat} (h : k < s.size) : s.data.toList[k]? = some s[k] := by
  rw [List.getElem?_eq_getElem (by rw [size_list]; exact h)]
  rfl
theorem tl_eq (s : ByteArray) : s.toList = s.data.toList := ByteArray.toList_eq s
theorem ba_ext {a b : ByteArray} (h : a.data.toList = b.data.toList) : a = b := by
  obtain ⟨⟨x⟩⟩ := a
  obtain ⟨⟨y⟩⟩ := b
  simp at h
  subst h
  rfl
theorem take_of_pre {p : UInt8 → Bool} : ∀ {l : List UInt8}, l.takeWhile p = l.take (preN p l)
  | [] => by simp
  | c :: l => by
    unfold preN
    cases h : p c
    · simp [h]
    · simp [h]
      exact take_of_pre (l := l)
theorem all_pre {p : UInt8 → Bool} : ∀ {l : List UInt8}, preN p l = l.length → ∀ c ∈ l, p c = true
  | [], _, c, h => by cases h
  | a :: l, h, c, hc => by
    unfold preN at h
    cases ha : p a
    · simp [ha] at h
    · simp [ha] at h
      rcases List.mem_cons.1 hc with rfl | h1
      · exact ha
      · exact all_pre (l := l) h c h1
theorem numF_step (a : Int) (l : List UInt8) {k : Nat} (hk : k < l.length) : numF a (l.drop k) = if 10 * a + (((l[k]'hk).toNat : Int) - 48) > 2147483647 then (0, 2) else numF (10 * a + (((l[k]'hk).toNat : Int) - 48)) (l.drop (k + 1)) := by
  rw [List.drop_eq_getElem_cons hk]
  rfl

set_option maxHeartbeats 2000000 in
set_option maxRecDepth 100000 in
theorem number_any (s : ByteArray) (w : World) (hs : s.size ≤ 9223372036854775807) :
    Calls Tryz.prog 128 #[.string s] w fun e w' => e = .returned (.tuple #[.int .i64 (numS s.data.toList).1, .int .i64 (numS s.data.toList).2]) ∧ w = w' := by
  by_cases h0 : s.size = 0
  · have hl : s.data.toList = [] := List.eq_nil_of_length_eq_zero (by rw [size_list]; exact h0)
    have hn : numS s.data.toList = (0, 3) := by rw [hl]; rfl
    obtain rfl : s = ByteArray.empty := ba_ext hl
    have HN := Lib.hid hn
    clear hn h0 hl
    go_enter Tryz.func128, Tryz.ntmps128
    go_wp2_with fail
    go_ret2
    exact ⟨by rw [HN.out]; rfl, rfl⟩
  · have h1 : 0 < s.size := by omega
    have hne : s.toList ≠ [] := by
      rw [tl_eq]
      intro h
      have := size_list s
      rw [h] at this
      simp at this
      omega
    have hie : s.toList.isEmpty = false := by
      cases hq : s.toList
      · exact absurd hq hne
      · rfl
    by_cases hd : preN digB s.data.toList = s.size
    · obtain ⟨c0, hc0⟩ : ∃ c : UInt8, s[0] = c := ⟨_, rfl⟩
      have hh : s.data.toList.head? = some c0 := by
        rw [List.head?_eq_getElem?, at_list s h1, hc0]
      have hext : s.extract 0 (preN digB s.data.toList) = s := by rw [hd, ext_all]
      have HX := Lib.hid hext
      have HD : Hid (∀ c ∈ s.data.toList, digB c = true) := all_pre (by rw [size_list]; exact hd)
      have HH := Lib.hid hh
      have HDN := Lib.hid hd
      clear hext hh hd
      by_cases hz : 1 < s.size ∧ c0 = 48
      · obtain ⟨hz1, rfl⟩ := hz
        have hn : numS s.data.toList = (0, 3) := by
          unfold numS
          rw [if_pos (.inr (.inr ⟨by rw [size_list]; exact hz1, HH.out⟩))]
        have HN := Lib.hid hn
        clear hn
        have t1 : decide ((1 : Int) < (s.size : Int)) = true := by simp; omega
        go_enter Tryz.func128, Tryz.ntmps128
        go_wp2_with (first | (go_at_call 83; refine (runDigit_any s w hs).mono ?_; rintro e w' ⟨rfl, rfl⟩; rw [HX.out]))
        go_ret2
        exact ⟨by rw [HN.out]; rfl, rfl⟩
      · have hn : numS s.data.toList = numF 0 s.data.toList := by
          unfold numS
          rw [if_neg]
          rintro (h | h | ⟨h, h'⟩)
          · rw [← tl_eq] at h; exact hne h
          · exact h (by rw [HDN.out, size_list])
          · rw [HH.out] at h'
            injection h' with h'
            exact hz ⟨by rw [size_list] at h; exact h, h'⟩
        have HN := Lib.hid hn
        clear hn
        have hcut : Hid (decide ((1 : Int) < (s.size : Int)) = false ∨ decide ((1 : Int) < (s.size : Int)) = true ∧ (((c0.toNat : Int)) == 48) = false) := by
          by_cases h : 1 < s.size
          · refine .inr ⟨by simp; omega, ?_⟩
            have : c0 ≠ 48 := fun e => hz ⟨h, e⟩
            have h2 : c0.toNat ≠ 48 := fun e => this (UInt8.toNat_inj.1 e)
            simp
            omega
          · exact .inl (by simp; omega)
        clear hz
        rcases hcut.out with t1 | ⟨t1, t2⟩
        all_goals
          clear hcut
          go_enter Tryz.func128, Tryz.ntmps128
          go_wp2_with (first | (go_at_call 83; refine (runDigit_any s w hs).mono ?_; rintro e w' ⟨rfl, rfl⟩; rw [HX.out]))
          clear t1
          try clear t2
          go_loop [4, 26] (fun v i => ∃ (k : Nat) (a : Int), k ≤ s.size ∧ i = .int .i64 k ∧ v = .int .i64 a ∧ 0 ≤ a ∧ a ≤ 2147483647 ∧ Hid (numF a (s.data.toList.drop k) = numS s.data.toList)) (fun _ i => s.size - (intOf i).toNat)
          case atStart => exact ⟨0, 0, by omega, rfl, rfl, by omega, by omega, by rw [Hid, HN.out]; rfl⟩
          case round =>
            obtain ⟨k, a, hk, rfl, rfl, ha0, ha1, hf⟩ := hrel
            clear HN
            by_cases hlt : k < s.size
            · have hs' := numF_step a s.data.toList (k := k) (by rw [size_list]; exact hlt)
              have hd := HD.out _ (List.getElem_mem (l := s.data.toList) (n := k) (by rw [size_list]; exact hlt))
              have hsk : s.data.toList[k]'(by rw [size_list]; exact hlt) = s[k] := rfl
              rw [hsk] at hs' hd
              rw [digB_t] at hd
              obtain ⟨x, hx⟩ : ∃ x : Nat, s[k].toNat = x := ⟨_, rfl⟩
              rw [hx] at hs' hd
              obtain ⟨hd0, hd1⟩ := hd
              have hd0' : (48 : Int) ≤ (x : Int) := by omega
              have hd1' : (x : Int) ≤ 57 := by omega
              have HS := Lib.hid hs'
              clear hs' hsk hc0
              by_cases hgt : 2147483647 < 10 * a + ((x : Int) - 48)
              · have hres : numS s.data.toList = (0, 2) := by rw [← hf.out, HS.out, if_pos hgt]
                have HRES := Lib.hid hres
                clear hres
                go_wp2_with fail
                go_ret2
                exact ⟨by rw [HRES.out]; rfl, rfl⟩
              · have hres : numF (10 * a + ((x : Int) - 48)) (s.data.toList.drop (k + 1)) = numS s.data.toList := by rw [← hf.out, HS.out, if_neg hgt]
                have HRES := Lib.hid hres
                clear hres
                have hle : 10 * a + ((x : Int) - 48) ≤ 2147483647 := by omega
                go_wp2_with fail
                go_round
                case rel => exact ⟨k + 1, 10 * a + ((x : Int) - 48), by omega, by go_num, rfl, by omega, hle, HRES⟩
                case measure => simp [intOf]; omega
            · obtain rfl : k = s.size := by omega
              have hres : numS s.data.toList = (a, 0) := by
                rw [← hf.out, List.drop_of_length_le (by rw [size_list]; omega)]
                rfl
              have HRES := Lib.hid hres
              clear hres
              go_wp2_with fail
              go_ret2
              exact ⟨by rw [HRES.out]; rfl, rfl⟩
    · obtain ⟨t, ht⟩ : ∃ t, s.extract 0 (preN digB s.data.toList) = t := ⟨_, rfl⟩
      have hn : numS s.data.toList = (0, 3) := by
        unfold numS
        rw [if_pos (.inr (.inl (by rw [size_list]; exact hd)))]
      have htn : ¬ t.toList = s.toList := by
        rw [tl_eq, tl_eq]
        intro h
        have h2 := ba_ext h
        rw [← ht] at h2
        have h3 := congrArg ByteArray.size h2
        have := preN_le digB s.data.toList
        rw [size_list] at this
        simp at h3
        omega
      have HN := Lib.hid hn
      have HT := Lib.hid ht
      clear hn ht
      go_enter Tryz.func128, Tryz.ntmps128
      go_wp2_with (first | (go_at_call 83; refine (runDigit_any s w hs).mono ?_; rintro e w' ⟨rfl, rfl⟩; rw [HT.out]))
      go_ret2
      exact ⟨by rw [HN.out]; rfl, rfl⟩
end Go.Proofs.YtdgekckedchjbaaGreatDoor
namespace Go.Proofs.YtdgekckedchjbaaGreatDoor
open Go.RowKit

/-- Does a text stand in a list? -/
def inL (l : List ByteArray) (s : ByteArray) : Bool := (l.map (·.data.toList)).contains s.data.toList
theorem inL_iff {l : List ByteArray} {s : ByteArray} : inL l s = true ↔ s ∈ l := by
  unfold inL
  rw [List.contains_iff_mem, List.mem_map]
  constructor
  · rintro ⟨a, ha, he⟩
    have : a = s := by
      obtain ⟨⟨x⟩⟩ := a
      obtain ⟨⟨y⟩⟩ := s
      simp at he
      subst he
      rfl
    rw [← this]
    exact ha
  · intro h
    exact ⟨s, h, rfl⟩
theorem inL_not {l : List ByteArray} {s : ByteArray} : inL l s = false ↔ s ∉ l := by
  rw [← inL_iff]
  simp
/-- Block r is a map of just these texts. -/
def SetIs (w : World) (r : Nat) (l : List ByteArray) : Prop := ∃ (es : Array MapEntry) (c : Nat), w.heap[r]? = some (.map es c) ∧ es.toList.map (fun e => (e.key, e.val)) = l.map fun s => (Value.string s, Value.bool true)
section
variable {w w' : World} {r : Nat} {l : List ByteArray}
theorem SetIs.lt (h : SetIs w r l) : r < w.heap.size := by
  obtain ⟨es, c, h, _⟩ := h
  exact (Array.getElem?_eq_some_iff.1 h).1
theorem SetIs.kept {S : Nat → Prop} (h : SetIs w r l) (hk : Kept S w w') (hs : ¬ S r) : SetIs w' r l := by
  have hl := h.lt
  obtain ⟨es, c, h, h2⟩ := h
  exact ⟨es, c, (hk.block r hl hs).trans h, h2⟩
theorem SetIs.below (h : SetIs w r l) (hb : Below w.heap.size w w') : SetIs w' r l := h.kept (Kept.of_below (S := fun _ => False) hb) (fun h => h)
theorem SetIs.new (w : World) : SetIs (w.alloc (.map #[] 0)) w.heap.size [] := ⟨#[], 0, heap_alloc_new w _, rfl⟩
theorem SetIs.keys {es : Array MapEntry} (h : es.toList.map (fun e => (e.key, e.val)) = l.map fun s => (Value.string s, Value.bool true)) : ∀ x ∈ es.toList, Go.MapKept.IsKey .string x.key ∧ x.val = .bool true ∧ ∃ s ∈ l, x.key = .string s := by
  intro x hx
  have : (x.key, x.val) ∈ l.map fun s => (Value.string s, Value.bool true) := by rw [← h]; exact List.mem_map.2 ⟨x, hx, rfl⟩
  obtain ⟨s, hs, he⟩ := List.mem_map.1 this
  injection he with h1 h2
  exact ⟨by rw [← h1]; trivial, h2.symm, s, hs, h1.symm⟩
theorem SetIs.has {es : Array MapEntry} (h : es.toList.map (fun e => (e.key, e.val)) = l.map fun s => (Value.string s, Value.bool true)) {s : ByteArray} (hs : s ∈ l) : ∃ x ∈ es.toList, x.key = .string s := by
  have : (Value.string s, Value.bool true) ∈ es.toList.map (fun e => (e.key, e.val)) := by rw [h]; exact List.mem_map.2 ⟨s, hs, rfl⟩
  obtain ⟨x, hx, he⟩ := List.mem_map.1 this
  injection he with h1 h2
  exact ⟨x, hx, h1⟩
theorem SetIs.find {es : Array MapEntry} (h : es.toList.map (fun e => (e.key, e.val)) = l.map fun s => (Value.string s, Value.bool true)) (s : ByteArray) :
    (s ∉ l ∧ Instr.findNow .string (.string s) es.toList 0 = some none) ∨ (s ∈ l ∧ ∃ j, Instr.findNow .string (.string s) es.toList 0 = some (some (j, .bool true))) := by
  rcases Go.MapKept.findNow_spec (d := .string) (k := .string s) trivial es.toList 0 (fun x hx => (SetIs.keys h x hx).1) with ⟨h1, h2⟩ | ⟨j, e, h1, h2, h3⟩
  · refine .inl ⟨fun hs => ?_, h1⟩
    obtain ⟨x, hx, he⟩ := SetIs.has h hs
    exact h2 x hx he
  · have he : e ∈ es.toList := List.mem_of_getElem? h2
    obtain ⟨_, hv, s', hs', hk⟩ := SetIs.keys h e he
    rw [h3] at hk
    injection hk with hk
    subst hk
    exact .inr ⟨hs', 0 + j, by rw [h1, hv]⟩

variable {P : Program}
theorem SetIs.lookup (h : SetIs w r l) {t k e : TypeId} (ht : P.underlying t = some (.map k e)) (hk : P.underlying k = some .string) (hz : (zeroValue e).run P w = .ok (.bool false) w) (s : ByteArray) :
    (Instr.lookup t (.map (some r)) (.string s) false).run P w = .ok (.bool (inL l s)) w := by
  obtain ⟨es, c, hm, hl⟩ := h
  unfold Instr.lookup
  rcases SetIs.find hl s with ⟨h1, h2⟩ | ⟨h1, j, h2⟩
  · rw [inL_not.2 h1]
    simp [run_underlying ht, Go.MapKept.run_getObj_map hm, Go.MapKept.run_checkKey (P := P) (w := w) hk (k := .string s) trivial, Go.MapKept.run_findKey hk h2, Result.andThen, hz]
  · rw [inL_iff.2 h1]
    simp [run_underlying ht, Go.MapKept.run_getObj_map hm, Go.MapKept.run_checkKey (P := P) (w := w) hk (k := .string s) trivial, Go.MapKept.run_findKey hk h2, Result.andThen]

theorem wpList_set_add {ops : Array Oper} {rest : List Oper} {o : Oper} {a : Act} {Q : Exit → Act → World → Prop} (hgd : Region.wanted o (yielded ops a.tmps) = true) (m x y : Operand) {t k e : TypeId} (r : Nat) (l : List ByteArray) (s : ByteArray)
    (ho : o.op = .mapUpdate t m x y) (hd : o.dst = none) (ht : P.underlying t = some (.map k e)) (hk : P.underlying k = some .string) (hm : SetIs w r l) (em : a.eval m = .map (some r)) (ex : a.eval x = .string s) (ey : a.eval y = .bool true) (hs : s ∉ l)
    (h : ∀ w', SetIs w' r (l ++ [s]) → Kept (fun z => z = r) w w' → wpList P ops Q rest a w') : wpList P ops Q (o :: rest) a w := by
  obtain ⟨es, c, hh, hl⟩ := hm
  rcases SetIs.find hl s with ⟨h1, h2⟩ | ⟨h1, _⟩
  · refine BigFrame.wpList_want hgd fun K hK => ?_
    have hr : (Instr.mapUpdate t (.map (some r)) (.string s) (.bool true)).run P w = .ok () { w with heap := w.heap.setIfInBounds r (.map (es.push { key := .string s, val := .bool true, born := c }) (c + 1)) } := by
      unfold Instr.mapUpdate
      simp only [run_underlying ht, Sem.run_bind, Result.andThen_ok, Go.MapKept.run_getObj_map hh, Go.MapKept.run_checkKey (P := P) (w := w) hk (k := .string s) trivial, Go.MapKept.run_findKey hk h2, Go.MapKept.run_setObj_map _ hh]
    have hb := Go.MapKept.heap_set (o' := .map (es.push { key := .string s, val := .bool true, born := c }) (c + 1)) hh
    have hw := h { w with heap := w.heap.setIfInBounds r (.map (es.push { key := .string s, val := .bool true, born := c }) (c + 1)) } ⟨_, _, hb.1, by simp [hl]⟩ ⟨rfl, rfl, rfl, by simp, fun z _ hz => hb.2 z hz⟩
    unfold Oper.wp
    simp only [execOp, ho, em, ex, ey, hr, Sem.run_bind, Result.andThen_ok, Sem.run_pure, Oper.upon, hd]
    exact hK _ _ hw
  · exact absurd h1 hs
end
theorem run_makeMap_hint {P : Program} (t k e : TypeId) (kd : IntKind) (n : Int) (ht : P.underlying t = some (.map k e)) (w : World) :
    (Instr.makeMap t (some (.int kd n))).run P w = .ok (.map (some w.heap.size)) (w.alloc (.map #[] 0)) := by
  simp [Instr.makeMap, run_underlying ht]; rfl

def SetMade (w : World) (l : List ByteArray) (e : Ending) (w' : World) : Prop := ∃ r, e = .returned (.map (some r)) ∧ SetIs w' r l ∧ w.heap.size ≤ r ∧ Below w.heap.size w w'

set_option maxHeartbeats 1000000 in
set_option maxRecDepth 100000 in
theorem set_any (A : Option Addr) (n c : Nat) (l : List ByteArray) (w : World) (hr : RV w A n (l.map Value.string)) (hd : l.Nodup) (hn : n ≤ 1000) :
    Calls Tryz.prog 122 #[.slice A n c] w (SetMade w l) := by
  have hmk := fun W => run_makeMap_hint (P := Tryz.prog) 151 _ _ .i64 (n : Int) Tryz.underlying151 W
  have hln : l.length = n := by have := hr.len; simp at this; omega
  have HR := Lib.hid hr
  have HD := Lib.hid hd
  have HL := Lib.hid hln
  clear hr hd hln
  go_enter Tryz.func122, Tryz.ntmps122
  go_wp2_with fail
  go_loopw [11] (fun i wr => ∃ k : Nat, k ≤ n ∧ i = .int .i64 k ∧ Hid (SetIs wr w.heap.size (l.take k)) ∧ Below w.heap.size w wr) (fun i _ => n - (intOf i).toNat)
  case atStart => exact ⟨0, by omega, rfl, SetIs.new w, (Below.refl _ w).al _⟩
  case round =>
    obtain ⟨k, hk, rfl, hs, hb⟩ := hrel
    clear hmk
    by_cases hlt : k < n
    · obtain ⟨b, o, rfl, hbl, hkl, hc⟩ := (HR.out.below hb).at_ hlt
      have hkl' : k < l.length := by simpa using hkl
      have hnd : l[k] ∉ l.take k := by
        intro hm
        have h1 := List.take_append_drop k l
        have h2 := HD.out
        rw [← h1, List.nodup_append] at h2
        exact h2.2.2 _ hm _ (by rw [List.drop_eq_getElem_cons hkl']; exact List.mem_cons_self ..) rfl
      have HT := Lib.hid (List.take_succ_eq_append_getElem hkl')
      simp only [List.getElem_map] at hc
      have HN := Lib.hid hnd
      clear hnd
      generalize l[k] = s at *
      have g1 : (k : Int) < (n : Int) := by omega
      go_wp2_with (first | ((with_reducible show wpList _ _ _ (⟨none, Op.mapUpdate _ (.tmp 15) (.tmp 16) _, _, _, _, _⟩ :: _) _ _); refine wpList_set_add (by rfl) (.tmp 15) (.tmp 16) _ w.heap.size (l.take k) s rfl rfl Tryz.underlying151 Tryz.underlying9 hs.out rfl rfl rfl HN.out ?_; intro w2 s2 k2))
      have s3 : Hid (SetIs w2 w.heap.size (l.take (k + 1))) := by rw [Hid, HT.out]; exact s2
      clear s2 hc hs
      go_wp2_with fail
      go_roundw
      case rel => exact ⟨k + 1, by omega, by go_num, s3, hb.trans (k2.to_below hb.size (fun q hq e => by omega))⟩
      case measure => simp [intOf]; omega
    · obtain rfl : k = n := by omega
      have h3 := hs.out
      rw [List.take_of_length_le (by rw [HL.out]; omega)] at h3
      have H3 := Lib.hid h3
      clear h3 hs
      go_wp2_with fail
      go_ret
      exact ⟨w.heap.size, rfl, H3.out, Nat.le_refl _, hb⟩
end Go.Proofs.YtdgekckedchjbaaGreatDoor
