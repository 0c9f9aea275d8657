
/-
  Slices of bytes over this program: a row of bytes of the call's own, append onto it, make.
-/
import Derived.Test.YtidppcaohkfnfaaProg
import Derived.Test.YtidppcaohkfnfaaBase
import Derived.Lib.AppendStr
import Derived.Laws.IdiomStrings
namespace Go.Proofs.Ytidppcaohkfnfaa
open Go.RowKit

theorem u8_info : (Try.prog.info? 5).map (fun i => (i.zero, i.size, i.bytes)) = some (some (.int .u8 0), 1, 1) := by kernel_rfl

/-- The value v is a slice of the call's own (a row from block 'base' on) that holds the bytes l. -/
def OB (w : World) (base : Nat) (v : Value) (l : List UInt8) : Prop := w.ownsRow base 5 1 v l.length (B8 l)

section
variable {w w' : World} {base : Nat} {v : Value} {l l' : List UInt8}
theorem OB.nil (w : World) (base : Nat) : OB w base (.slice none 0 0) [] := World.ownsRow_nil w base _ _
theorem OB.made (w : World) (base : Nat) (hb : base ≤ w.heap.size) : OB (w.alloc (.cells #[] 5)) base (.slice (some ⟨w.heap.size, 0, none⟩) 0 0) [] :=
  ⟨rfl, .inr ⟨w.heap.size, 0, #[], rfl, hb, heap_alloc_new w _, Nat.le_refl _, Nat.zero_le _, rfl, rfl⟩⟩
theorem OB.form (h : OB w base v l) : ∃ A c, v = .slice A l.length c ∧ l.length ≤ c ∧ c ≤ maxLen ∧ RB w A l.length l := by
  have h' := h
  rcases h.2 with ⟨rfl, h0⟩ | ⟨g, cap, cur, rfl, _, _, hc, hm, _⟩
  · have : l = [] := List.eq_nil_of_length_eq_zero h0
    subst this
    exact ⟨none, 0, rfl, by simp, by simp, RB.none_⟩
  · exact ⟨_, _, rfl, hc, hm, RB.of_own h'⟩
theorem OB.got (h : OB w base v l) : ∃ A n c, v = .slice A n c ∧ n ≤ c ∧ c ≤ maxLen ∧ RB w A n l := by
  obtain ⟨A, c, h1, h2, h3, h4⟩ := h.form
  exact ⟨A, _, c, h1, h2, h3, h4⟩
theorem OB.rb {A : Option Addr} {n c : Nat} (h : OB w base (.slice A n c) l) : RB w A n l := by
  obtain ⟨A', n', c', e, _, _, r⟩ := h.got
  injection e with e1 e2 e3
  subst e1 e2
  exact r
theorem OB.block (h : OB w base v l) : ∀ k, v.ownBlock = some k → base ≤ k ∧ k < w.heap.size := by
  intro k hk
  rcases h.2 with ⟨rfl, h0⟩ | ⟨g, cap, cur, rfl, hg, hh, _⟩
  · simp [Value.ownBlock] at hk
  · simp only [Value.ownBlock, Option.some.injEq] at hk
    subst hk
    refine ⟨hg, ?_⟩
    rcases Nat.lt_or_ge g w.heap.size with h1 | h1
    · exact h1
    · rw [Array.getElem?_eq_none h1] at hh; cases hh
theorem OB.alloc (h : OB w base v l) (o : Obj) : OB (w.alloc o) base v l := World.ownsRow.alloc h o
theorem OB.drew (h : OB w base v l) : OB w.drew base v l := h
theorem OB.drewN (h : OB w base v l) (n : Nat) : OB (w.drewN n) base v l := h
theorem OB.mono (h : OB w base v l) {b : Nat} (hb : b ≤ base) : OB w b v l := by
  refine ⟨h.1, ?_⟩
  rcases h.2 with h2 | ⟨g, cap, cur, hv, hg, r⟩
  · exact .inl h2
  · exact .inr ⟨g, cap, cur, hv, by omega, r⟩
theorem OB.below {B : Nat} (h : OB w base v l) (hb : Below B w w') (hB : w.heap.size ≤ B) : OB w' base v l := by
  refine ⟨h.1, ?_⟩
  rcases h.2 with h2 | ⟨g, cap, cur, hv, hg, hh, r⟩
  · exact .inl h2
  · have hlt := (h.block g (by rw [hv]; rfl)).2
    exact .inr ⟨g, cap, cur, hv, hg, (hb.block g (by omega)).trans hh, r⟩
theorem OB.grown (h : OB w base v l) (hg : w.grownBy w' v.ownBlock) (hB : base ≤ w.heap.size) : Below base w w' :=
  (Below.refl _ _).grown hg hB fun k hk => (h.block k hk).1
end

theorem OB.other {w w' : World} {base : Nat} {v : Value} {l : List UInt8} {g : Nat} (h : OB w base v l) (hg : w.grownBy w' (some g)) (hb : g < base) : OB w' base v l := by
  refine ⟨h.1, ?_⟩
  rcases h.2 with h2 | ⟨g', cap, cur, hv, hg', hh, r⟩
  · exact .inl h2
  · have hlt := (h.block g' (by rw [hv]; rfl)).2
    exact .inr ⟨g', cap, cur, hv, hg', (hg.block g' hlt (by simp; omega)).trans hh, r⟩
theorem OB.other' {w w' : World} {base : Nat} {v : Value} {l : List UInt8} {row : Option Nat} (h : OB w base v l) (hg : w.grownBy w' row) (hb : ∀ g, row = some g → g < base) : OB w' base v l := by
  refine ⟨h.1, ?_⟩
  rcases h.2 with h2 | ⟨g', cap, cur, hv, hg', hh, r⟩
  · exact .inl h2
  · have hlt := (h.block g' (by rw [hv]; rfl)).2
    exact .inr ⟨g', cap, cur, hv, hg', (hg.block g' hlt (fun e => by have := hb g' e.symm; omega)).trans hh, r⟩
theorem OB.addr {w : World} {base n c : Nat} {A : Option Addr} {l : List UInt8} (h : OB w base (.slice A n c) l) (hn : 0 < n) : ∃ g, A = some ⟨g, 0, none⟩ ∧ base ≤ g ∧ g < w.heap.size ∧ n = l.length := by
  rcases h.2 with ⟨h0, _⟩ | ⟨g, cap, cur, hv, hg, _⟩
  · simp at h0; omega
  · simp only [Value.slice.injEq] at hv
    obtain ⟨rfl, rfl, rfl⟩ := hv
    exact ⟨g, rfl, hg, (h.block g rfl).2, rfl⟩
theorem OB.cell {w : World} {base n c g : Nat} {l : List UInt8} (h : OB w base (.slice (some ⟨g, 0, none⟩) n c) l) {k : Nat} (hk : k < l.length) :
    w.cell? ⟨g, k, none⟩ = some (.int .u8 ((l[k]'hk).toNat : Int)) ∧ w.frozen? ⟨g, k, none⟩ = false := by
  have hn : n = l.length := by
    rcases h.2 with ⟨h0, _⟩ | ⟨g', cap, cur, hv, _⟩
    · simp at h0
    · simp only [Value.slice.injEq] at hv; exact hv.2.1
  subst hn
  exact ⟨(World.ownsRow.cellAt h k (by omega)).trans (B8_at hk), World.ownsRow.frozenAt h k⟩
theorem B8_set (l : List UInt8) (k : Nat) (c : UInt8) : B8 (l.set k c) = (B8 l).set k (.int .u8 (c.toNat : Int)) := by simp [B8, List.map_set]
theorem OB.store {w : World} {base n c g : Nat} {l : List UInt8} (h : OB w base (.slice (some ⟨g, 0, none⟩) n c) l) (k : Nat) {x : Int} {u : UInt8} (hx : x = (u.toNat : Int)) :
    OB (w.setCell ⟨g, k, none⟩ (.int .u8 x)) base (.slice (some ⟨g, 0, none⟩) n c) (l.set k u) ∧ w.grownBy (w.setCell ⟨g, k, none⟩ (.int .u8 x)) (some g) := by
  have hn : n = l.length := by
    rcases h.2 with ⟨h0, _⟩ | ⟨g', cap, cur, hv, _⟩
    · simp at h0
    · simp only [Value.slice.injEq] at hv; exact hv.2.1
  subst hn
  subst hx
  have := World.ownsRow.stored h k (.int .u8 (u.toNat : Int))
  refine ⟨?_, this.2⟩
  unfold OB
  rw [B8_set, List.length_set]
  exact this.1
theorem RB.made (w : World) : RB (w.alloc (.cells #[] 5)) (some ⟨w.heap.size, 0, none⟩) 0 [] := RB.none_

/-- 'make([]byte, 0, n)' with a size that is known: one row, whatever the world. -/
theorem make_known (n : Nat) (hn : n ≤ 281474976710656) : ∃ C : Array Value, C.size = n ∧
    ∀ W : World, (Instr.makeSlice 29 (.int .i64 0) (.int .i64 (n : Int))).run Try.prog W = .ok (.slice (some ⟨W.heap.size, 0, none⟩) 0 n) (W.alloc (.cells C 5)) := by
  obtain ⟨i, hi, hz0, hz1, hz2⟩ := info_parts u8_info
  refine ⟨madeCells (Value.int .u8 0).cells (n * i.size), ?_, fun W => ?_⟩
  · rw [hz1]; simp [madeCells]
  · have hr := run_make (P := Try.prog) W 29 5 i (.int .u8 0) Try.underlying29 hi hz0 .i64 .i64 0 n (by omega) (by omega) (by rw [hz2]; omega) (by omega)
    simp only [Int.toNat_natCast] at hr
    exact hr
theorem OB.made_room (w : World) (base n : Nat) (C : Array Value) (hC : C.size = n) (hn : n ≤ maxLen) (hb : base ≤ w.heap.size) : OB (w.alloc (.cells C 5)) base (.slice (some ⟨w.heap.size, 0, none⟩) 0 n) [] :=
  ⟨rfl, .inr ⟨w.heap.size, n, C, rfl, hb, heap_alloc_new w _, Nat.zero_le _, hn, by simpa using hC, rfl⟩⟩

/-- What is made for one byte to be appended. -/
theorem RB.one (w : World) {x : Int} {c : UInt8} (hx : x = (c.toNat : Int)) (t : TypeId) : RB (w.alloc (.cells #[.int .u8 x] t)) (some ⟨w.heap.size, 0, none⟩) 1 [c] := by
  refine ⟨by simp [B8], fun _ => ⟨_, rfl, by simp, fun j u hu => ?_⟩⟩
  match j, hu with
  | 0, hu =>
    simp [B8] at hu
    subst hu
    simp [Addr.add, hx]

section
variable (w : World) {ops : Array Oper} {rest : List Oper} {o : Oper} {a : Act} {Q : Exit → Act → World → Prop}
/-- 'append(v, x...)', v of the call's own, x any slice of bytes. -/
theorem wpList_app8 (hgd : Region.wanted o (yielded ops a.tmps) = true) (s x : Operand)
    (ho : o.op = .call { callee := .builtin .append, args := #[s, x], argTypes := #[29, 29] })
    (base : Nat) (v : Value) (l : List UInt8) (hs : a.eval s = v) (hown : OB w base v l)
    (A : Option Addr) (m c : Nat) (l' : List UInt8) (hx : a.eval x = .slice A m c) (hr : RB w A m l')
    (hb : l.length + m ≤ 140737488355328) (hbase : base ≤ w.heap.size)
    (h : ∀ v' w', OB w' base v' (l ++ l') → Below base w w' → wpList Try.prog ops Q rest (a.put o.dst v') w') : wpList Try.prog ops Q (o :: rest) a w := by
  obtain ⟨i, hi, hz0, hz1, hz2⟩ := info_parts u8_info
  have hm := hr.len
  refine wpList_append_any w hgd s x 29 ho base 5 i (.int .u8 0) 1 1 Try.underlying29 hi hz0 hz1 hz2 rfl (by decide) v l.length (B8 l) hs hown w.heap.size A m c (B8 l') hx hr (B8_one _) (by simp only [maxLen]; omega) (by omega) hbase ?_
  intro v' w' h1 h2 _
  refine h v' w' ?_ (hown.grown h2 hbase)
  unfold OB
  rw [List.length_append, B8_append, ← hm]
  exact h1
/-- The same, at a step of a region that draws its order. -/
theorem step_app8 {K : Act → World → Prop} {E : Prop} (hgd : o.guard = none) (s x : Operand)
    (ho : o.op = .call { callee := .builtin .append, args := #[s, x], argTypes := #[29, 29] })
    (base : Nat) (v : Value) (l : List UInt8) (hs : a.eval s = v) (hown : OB w base v l)
    (A : Option Addr) (m c : Nat) (l' : List UInt8) (hx : a.eval x = .slice A m c) (hr : RB w A m l')
    (hb : l.length + m ≤ 140737488355328) (hbase : base ≤ w.heap.size)
    (h : ∀ v' w', OB w' base v' (l ++ l') → Below base w w' → K (a.put o.dst v') w') :
    if Region.wanted o (yielded ops a.tmps) = true then Oper.wp Try.prog o a w K Q else E := by
  have hw : Region.wanted o (yielded ops a.tmps) = true := by simp [Region.wanted, hgd]
  rw [if_pos hw]
  obtain ⟨i, hi, hz0, hz1, hz2⟩ := info_parts u8_info
  have hm := hr.len
  refine wp_append_any w s x 29 ho base 5 i (.int .u8 0) 1 1 Try.underlying29 hi hz0 hz1 hz2 rfl (by decide) v l.length (B8 l) hs hown w.heap.size A m c (B8 l') hx hr (B8_one _) (by simp only [maxLen]; omega) (by omega) hbase ?_
  intro v' w' h1 h2 _
  refine h v' w' ?_ (hown.grown h2 hbase)
  unfold OB
  rw [List.length_append, B8_append, ← hm]
  exact h1
/-- 'append(v, s...)', v of the call's own, s a string. -/
theorem wpList_app8s (hgd : Region.wanted o (yielded ops a.tmps) = true) (s x : Operand)
    (ho : o.op = .call { callee := .builtin .append, args := #[s, x], argTypes := #[29, 9] })
    (base : Nat) (v : Value) (l : List UInt8) (hs : a.eval s = v) (hown : OB w base v l)
    (t : ByteArray) (hx : a.eval x = .string t)
    (hb : l.length + t.size ≤ 140737488355328) (hbase : base ≤ w.heap.size)
    (h : ∀ v' w', OB w' base v' (l ++ t.data.toList) → Below base w w' → wpList Try.prog ops Q rest (a.put o.dst v') w') : wpList Try.prog ops Q (o :: rest) a w := by
  obtain ⟨i, hi, hz0, hz1, hz2⟩ := info_parts u8_info
  refine BigFrame.wpList_want hgd fun K hK => ?_
  obtain ⟨v', w', hr, h2, h3, _⟩ := Lib.run_append_own_string (P := Try.prog) w base 29 9 o.type 5 i Try.underlying29 Try.underlying9 hi hz0 hz1 hz2 v l.length (B8 l) hown t (by simp only [maxLen]; omega) (by omega) hbase
  unfold Oper.wp execOp
  simp only [ho, resolve, invoke, builtin, Sem.run_bind, Sem.run_pure, Result.andThen_ok, List.map_toArray, List.map_cons, List.map_nil, hs, hx, hr]
  refine hK _ _ (h v' w' ?_ (hown.grown h3 hbase))
  unfold OB
  rw [List.length_append, B8_append]
  exact h2
/-- 'make([]byte, 0, n)'. -/
theorem wpList_make8 (hgd : Region.wanted o (yielded ops a.tmps) = true) (l c : Operand) (hop : o.op = Op.makeSlice 29 l c)
    (base : Nat) (C : Int) (n : Nat) (hl : a.eval l = .int .i64 0) (hc : a.eval c = .int .i64 C) (hC : C = (n : Int)) (b2 : n ≤ 281474976710656) (b4 : base ≤ w.heap.size)
    (hK : ∀ v w', OB w' base v [] → Below base w w' → wpList Try.prog ops Q rest (a.put o.dst v) w') :
    wpList Try.prog ops Q (o :: rest) a w := by
  obtain ⟨i, hi, hz0, hz1, hz2⟩ := info_parts u8_info
  refine BigFrame.wpList_want hgd fun K hK' => ?_
  obtain ⟨w', hrun, r1, r2⟩ := run_make_own (P := Try.prog) w base 29 5 i (.int .u8 0) 1 Try.underlying29 hi hz0 hz1 .i64 .i64 n (by rw [hz2]; omega) (by simp only [maxLen]; omega) b4
  subst hC
  unfold Oper.wp
  simp [execOp, hop, hl, hc, hrun, Result.andThen]
  exact hK' _ _ (hK _ w' r1 ((Below.refl _ _).grown r2 b4 (by simp)))
end

theorem B8_cells {w : World} {A : Option Addr} {n : Nat} {l : List UInt8} (h : RB w A n l) {a : Addr} (hA : A = some a) : ∀ j (hj : j < l.length), w.cell? (a.add j) = some (.int .u8 (l[j].toNat : Int)) := by
  intro j hj
  obtain ⟨ad, e, _, hc⟩ := h.2 (by have := h.len; omega)
  rw [hA] at e
  obtain rfl := Option.some.inj e
  exact hc j _ (B8_at hj)

/-- 'string(b)'. -/
theorem run_text {w : World} {A : Option Addr} {n : Nat} {l : List UInt8} (c : Nat) (h : RB w A n l) :
    (convert 29 9 (.slice A n c)).run Try.prog w = .ok (.string ⟨l.toArray⟩) w := by
  have hn := h.len
  subst hn
  cases A with
  | some a => exact run_convert_bytes_back w 29 9 5 a c l Try.underlying29 Try.underlying5 Try.underlying9 (B8_cells h rfl)
  | none =>
    have hl : l = [] := by
      rcases Nat.eq_zero_or_pos l.length with h0 | h0
      · exact List.eq_nil_of_length_eq_zero h0
      · obtain ⟨ad, e, _⟩ := h.2 h0
        cases e
    subst hl
    rw [run_convert_bytes_string w 29 9 5 none _ c Try.underlying29 Try.underlying5 Try.underlying9]
    rfl

theorem RB.row (w : World) (l : List UInt8) (C : Array Value) (t : TypeId) (fr : Nat × Nat) (hC : ∀ j (hj : j < l.length), C[j]? = some (.int .u8 ((l[j]'hj).toNat : Int))) : RB (w.alloc (.cells C t fr)) (some ⟨w.heap.size, 0, none⟩) l.length l := by
  refine ⟨by rw [B8_length, Nat.mul_one], fun _ => ⟨_, rfl, by simp, fun j u hu => ?_⟩⟩
  have hj : j < l.length := by
    have := (List.getElem?_eq_some_iff.1 hu).1
    rwa [B8_length] at this
  rw [Addr.add_lit, Nat.zero_add, World.cell?_alloc_mark, hC j hj, ← hu, B8_at hj]

/-- '[]byte(s)'. -/
theorem wpList_conv8 (w : World) {ops : Array Oper} {rest : List Oper} {o : Oper} {a : Act} {Q : Exit → Act → World → Prop} (hgd : Region.wanted o (yielded ops a.tmps) = true) (x : Operand)
    (ho : o.op = .convert 9 29 x) (t : ByteArray) (hx : a.eval x = .string t)
    (h : ∀ A n c w', RB w' A n t.data.toList → Below w.heap.size w w' → n ≤ c → wpList Try.prog ops Q rest (a.put o.dst (.slice A n c)) w') : wpList Try.prog ops Q (o :: rest) a w := by
  refine BigFrame.wpList_want hgd fun K hK => ?_
  have hr := run_bytes_of_string (P := Try.prog) w 9 29 5 t Try.underlying9 Try.underlying29 Try.underlying5
  unfold Oper.wp
  simp only [execOp, ho, hx, hr, Sem.run_bind, Result.andThen_ok, Sem.run_pure]
  refine hK _ _ (h _ _ _ _ ?_ (((below_drewN (Below.refl _ w) 1).alloc (Nat.le_refl _) _)) (grownCap_ge _ _ _ _))
  have hs : t.size = t.data.toList.length := (Array.length_toList (xs := t.data)).symm
  rw [hs]
  refine RB.row w.drew t.data.toList _ _ _ fun j hj => ?_
  rw [bytesRow_at t _ j (by simpa using hj)]
  simp
end Go.Proofs.Ytidppcaohkfnfaa
