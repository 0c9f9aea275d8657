/-
  package topup: Put.
-/
import Derived.Test.YtdbffjipoiphpaaT6
namespace Go.Proofs.Ytdbffjipoiphpaa
open Go.RowKit

def noW : Wt := ⟨[], 0, [], 0, []⟩
/-- What Put answers. -/
def putL (b : Bk) (h seat amt : Int) : List Int := [askedE b h seat, un (!decide ((b.wt.getD noW).till < h)) 19, un (!((b.wt.getD noW).laid.getD seat.toNat false)) 7, un (amt == (b.wt.getD noW).adds.getD seat.toNat 0) 22]
def putE (b : Bk) (h seat amt : Int) : Int := firstOf (putL b h seat amt)
/-- A seat's part laid, or not. -/
def layW (x : Wt) (i : Nat) (v : Bool) : Wt := { x with laid := x.laid.set i v }
/-- A bank behind Put. -/
def putB (b : Bk) (i : Nat) : Bk := match b.wt with
  | none => b
  | some x => if fullW (layW x i true) then { b with stakes := List.zipWith (· + ·) b.stakes x.adds, wt := none } else { b with wt := some (layW x i true) }

theorem firstOf_zero {l : List Int} (h : firstOf l = 0) : ∀ x ∈ l, x = 0 := by
  induction l with
  | nil => intro x hx; simp at hx
  | cons y l ih =>
    intro x hx
    unfold firstOf at h
    split at h
    · rename_i hy
      rcases List.mem_cons.1 hx with rfl | hx
      · exact hy
      · exact ih h x hx
    · rename_i hy
      exact absurd h hy

/-- Five new blocks, one behind the other. -/
theorem blks5 {w w1 : World} {t0 t1 t2 t3 t4 : TypeId} {c0 c1 c2 c3 c4 : Array Value} (hb : Below (((((w.alloc (.cells c0 t0)).alloc (.cells c1 t1)).alloc (.cells c2 t2)).alloc (.cells c3 t3)).alloc (.cells c4 t4)).heap.size (((((w.alloc (.cells c0 t0)).alloc (.cells c1 t1)).alloc (.cells c2 t2)).alloc (.cells c3 t3)).alloc (.cells c4 t4)) w1) :
    Blk w1 w.heap.size t0 c0 ∧ Blk w1 (w.heap.size + 1) t1 c1 ∧ Blk w1 (w.heap.size + 1 + 1) t2 c2 ∧ Blk w1 (w.heap.size + 1 + 1 + 1) t3 c3 ∧ Blk w1 (w.heap.size + 1 + 1 + 1 + 1) t4 c4 ∧ Below w.heap.size w w1 := by
  have h4 := blks4 (Below.refl ((((w.alloc (.cells c0 t0)).alloc (.cells c1 t1)).alloc (.cells c2 t2)).alloc (.cells c3 t3)).heap.size _)
  obtain ⟨a0, a1, a2, a3, f⟩ := h4
  have hs : ((((w.alloc (.cells c0 t0)).alloc (.cells c1 t1)).alloc (.cells c2 t2)).alloc (.cells c3 t3)).heap.size = w.heap.size + 1 + 1 + 1 + 1 := by simp
  generalize ((((w.alloc (.cells c0 t0)).alloc (.cells c1 t1)).alloc (.cells c2 t2)).alloc (.cells c3 t3)) = W at *
  have hn := Blk.new W t4 c4
  rw [hs] at hn
  exact ⟨(a0.alloc _).below hb (a0.alloc _).lt, (a1.alloc _).below hb (a1.alloc _).lt, (a2.alloc _).below hb (a2.alloc _).lt, (a3.alloc _).below hb (a3.alloc _).lt, hn.below hb hn.lt, (f.al _).then_ hb⟩

theorem runP1 (args : Array Value) (W : World) : (callFunc 46 args).run Try.prog W = .ok (.enter 46 args) W := run_call_plain Try.func46 (by kernel_rfl) (by kernel_rfl) args W
theorem runP2 (args : Array Value) (W : World) : (callFunc 48 args).run Try.prog W = .ok (.enter 48 args) W := run_call_plain Try.func48 (by kernel_rfl) (by kernel_rfl) args W
theorem runP3 (args : Array Value) (W : World) : (callFunc 49 args).run Try.prog W = .ok (.enter 49 args) W := run_call_plain Try.func49 (by kernel_rfl) (by kernel_rfl) args W
theorem runP4 (args : Array Value) (W : World) : (callFunc 50 args).run Try.prog W = .ok (.enter 50 args) W := run_call_plain Try.func50 (by kernel_rfl) (by kernel_rfl) args W

/-- A part laid in memory. -/
theorem WAt.lay {w : World} {S : Nat → Prop} {gw ga ca : Nat} {x : Wt} (h : WAt w S gw ga ca x) {i : Nat} (hi : i < 8) (v : Bool) : WAt (w.setCell ⟨gw, 11 + i, none⟩ (.bool v)) S gw ga ca (layW x i v) := by
  refine ⟨h.inW, h.inA, h.ne, h.tab, by simpa [layW] using h.laid, h.few, h.some_, h.range, ?_, h.adds.kept (Kept.setCell (Kept.refl (fun k => k = gw) w) (fun _ => rfl) _) (fun e => h.ne e.symm)⟩
  have := h.blk.set_ (11 + i) (.bool v)
  rw [show (wcells (layW x i v) (some ⟨ga, 0, none⟩) ca).toArray = ((wcells x (some ⟨ga, 0, none⟩) ca).toArray.setIfInBounds (11 + i) (.bool v)) from ?_]
  · exact this
  · rw [List.setIfInBounds_toArray]
    congr 1
    unfold wcells layW
    rw [List.set_append_right _ _ (by simp [h.tab]; omega), List.set_append_right _ _ (by simp [h.tab]; omega)]
    simp [h.tab, show 11 + i - 8 - 3 = i from by omega, List.map_set]

/-- Adds laid upon stakes, so far. -/
def addTo (s a : List Int) (k : Nat) : List Int := List.zipWith (· + ·) (s.take k) (a.take k) ++ s.drop k
theorem addTo_zero (s a : List Int) : addTo s a 0 = s := by simp [addTo]
theorem addTo_all {s a : List Int} (h : a.length = s.length) : addTo s a s.length = List.zipWith (· + ·) s a := by
  simp [addTo, List.take_of_length_le (Nat.le_refl s.length), List.take_of_length_le (Nat.le_of_eq h)]
theorem addTo_len {s a : List Int} (h : a.length = s.length) {k : Nat} (hk : k ≤ s.length) : (addTo s a k).length = s.length := by simp [addTo]; omega
theorem addTo_at {s a : List Int} (h : a.length = s.length) {k : Nat} (hk : k < s.length) : (addTo s a k)[k]? = some s[k] := by
  unfold addTo
  rw [List.getElem?_append_right (by simp; omega)]
  simp
  rw [show k + (k - min k (min s.length (min k a.length))) = k from by omega]
  exact List.getElem?_eq_getElem hk
theorem addTo_succ {s a : List Int} (h : a.length = s.length) {k : Nat} (hk : k < s.length) : (addTo s a k).set k (s[k] + a[k]'(by omega)) = addTo s a (k + 1) := by
  unfold addTo
  have hz : (List.zipWith (· + ·) (s.take k) (a.take k)).length = k := by simp; omega
  rw [List.set_append_right _ _ (by omega), hz, Nat.sub_self, List.drop_eq_getElem_cons hk, List.set_cons_zero,
    List.take_succ_eq_append_getElem hk, List.take_succ_eq_append_getElem (show k < a.length by omega), List.zipWith_append (by simp; omega)]
  simp

theorem zip_sum : ∀ {s a : List Int}, a.length = s.length → (List.zipWith (· + ·) s a).sum = s.sum + a.sum := by
  intro s
  induction s with
  | nil => intro a h; simp at h; subst h; simp
  | cons x s ih =>
    intro a h
    cases a with
    | nil => simp at h
    | cons y a =>
      simp only [List.zipWith_cons_cons, List.sum_cons]
      rw [ih (by simpa using h)]
      omega
theorem mem_le_sum {l : List Int} (h : ∀ x ∈ l, 0 ≤ x) : ∀ x ∈ l, x ≤ l.sum := by
  induction l with
  | nil => intro x hx; simp at hx
  | cons y l ih =>
    intro x hx
    have h0 : 0 ≤ l.sum := by
      clear ih hx
      have : ∀ z ∈ l, 0 ≤ z := fun z hz => h z (by simp [hz])
      clear h
      induction l with
      | nil => simp
      | cons z l ih2 =>
        have h1 := this z (by simp)
        have h2 := ih2 (fun v hv => this v (by simp [hv]))
        simp only [List.sum_cons]
        omega
    have hy := h y (by simp)
    simp only [List.sum_cons]
    rcases List.mem_cons.1 hx with rfl | hx
    · omega
    · have := ih (fun z hz => h z (by simp [hz])) x hx
      omega
/-- Stakes with all adds are right. -/
theorem zip_right {s a : List Int} (hs : ∀ x ∈ s, rightB x = true) (ha : ∀ x ∈ a, rightB x = true) (hl : a.length = s.length) (hsum : s.sum + a.sum ≤ 1125899906842624) : ∀ x ∈ List.zipWith (· + ·) s a, rightB x = true := by
  have h0 : ∀ x ∈ List.zipWith (· + ·) s a, 0 ≤ x := by
    intro x hx
    obtain ⟨i, hi, rfl⟩ := List.getElem_of_mem hx
    simp only [List.length_zipWith] at hi
    rw [List.getElem_zipWith]
    have h1 := rightB_iff.1 (hs (s[i]'(by omega)) (List.getElem_mem _))
    have h2 := rightB_iff.1 (ha (a[i]'(by omega)) (List.getElem_mem _))
    omega
  intro x hx
  have := mem_le_sum h0 x hx
  rw [zip_sum hl] at this
  exact rightB_iff.2 ⟨h0 x hx, by omega⟩
end Go.Proofs.Ytdbffjipoiphpaa
