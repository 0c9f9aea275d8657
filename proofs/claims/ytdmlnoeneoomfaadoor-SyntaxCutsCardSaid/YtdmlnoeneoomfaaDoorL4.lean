
/-
  Maps whose keys are texts and whose elements are true: sets.
-/
import Derived.Test.YtdmlnoeneoomfaaDoorKept
import Derived.Test.YtdmlnoeneoomfaaDoorProg
import Derived.MapKept
import Derived.WalkMore
import Derived.WalkSpells
import Derived.Laws.MakeOwn
namespace Go.Proofs.YtdmlnoeneoomfaaDoor
open Go.RowKit

/-- Does a text stand in a list? -/
def inL (l : List ByteArray) (s : ByteArray) : Bool := (l.map (·.data.toList)).contains s.data.toList
theorem inL_iff {l : List ByteArray} {s : ByteArray} : inL l s = true ↔ s ∈ l := by
  unfold inL
  rw [List.contains_iff_mem, List.mem_map]
  constructor
  · rintro ⟨a, ha, he⟩
    have : a = s := by
      obtain ⟨⟨x⟩⟩ := a
      obtain ⟨⟨y⟩⟩ := s
      simp at he
      subst he
      rfl
    rw [← this]
    exact ha
  · intro h
    exact ⟨s, h, rfl⟩
theorem inL_not {l : List ByteArray} {s : ByteArray} : inL l s = false ↔ s ∉ l := by
  rw [← inL_iff]
  simp
/-- Block r is a map of just these texts. -/
def SetIs (w : World) (r : Nat) (l : List ByteArray) : Prop := ∃ (es : Array MapEntry) (c : Nat), w.heap[r]? = some (.map es c) ∧ es.toList.map (fun e => (e.key, e.val)) = l.map fun s => (Value.string s, Value.bool true)
section
variable {w w' : World} {r : Nat} {l : List ByteArray}
theorem SetIs.lt (h : SetIs w r l) : r < w.heap.size := by
  obtain ⟨es, c, h, _⟩ := h
  exact (Array.getElem?_eq_some_iff.1 h).1
theorem SetIs.kept {S : Nat → Prop} (h : SetIs w r l) (hk : Kept S w w') (hs : ¬ S r) : SetIs w' r l := by
  have hl := h.lt
  obtain ⟨es, c, h, h2⟩ := h
  exact ⟨es, c, (hk.block r hl hs).trans h, h2⟩
theorem SetIs.below (h : SetIs w r l) (hb : Below w.heap.size w w') : SetIs w' r l := h.kept (Kept.of_below (S := fun _ => False) hb) (fun h => h)
theorem SetIs.new (w : World) : SetIs (w.alloc (.map #[] 0)) w.heap.size [] := ⟨#[], 0, heap_alloc_new w _, rfl⟩
theorem SetIs.keys {es : Array MapEntry} (h : es.toList.map (fun e => (e.key, e.val)) = l.map fun s => (Value.string s, Value.bool true)) : ∀ x ∈ es.toList, Go.MapKept.IsKey .string x.key ∧ x.val = .bool true ∧ ∃ s ∈ l, x.key = .string s := by
  intro x hx
  have : (x.key, x.val) ∈ l.map fun s => (Value.string s, Value.bool true) := by rw [← h]; exact List.mem_map.2 ⟨x, hx, rfl⟩
  obtain ⟨s, hs, he⟩ := List.mem_map.1 this
  injection he with h1 h2
  exact ⟨by rw [← h1]; trivial, h2.symm, s, hs, h1.symm⟩
theorem SetIs.has {es : Array MapEntry} (h : es.toList.map (fun e => (e.key, e.val)) = l.map fun s => (Value.string s, Value.bool true)) {s : ByteArray} (hs : s ∈ l) : ∃ x ∈ es.toList, x.key = .string s := by
  have : (Value.string s, Value.bool true) ∈ es.toList.map (fun e => (e.key, e.val)) := by rw [h]; exact List.mem_map.2 ⟨s, hs, rfl⟩
  obtain ⟨x, hx, he⟩ := List.mem_map.1 this
  injection he with h1 h2
  exact ⟨x, hx, h1⟩
theorem SetIs.find {es : Array MapEntry} (h : es.toList.map (fun e => (e.key, e.val)) = l.map fun s => (Value.string s, Value.bool true)) (s : ByteArray) :
    (s ∉ l ∧ Instr.findNow .string (.string s) es.toList 0 = some none) ∨ (s ∈ l ∧ ∃ j, Instr.findNow .string (.string s) es.toList 0 = some (some (j, .bool true))) := by
  rcases Go.MapKept.findNow_spec (d := .string) (k := .string s) trivial es.toList 0 (fun x hx => (SetIs.keys h x hx).1) with ⟨h1, h2⟩ | ⟨j, e, h1, h2, h3⟩
  · refine .inl ⟨fun hs => ?_, h1⟩
    obtain ⟨x, hx, he⟩ := SetIs.has h hs
    exact h2 x hx he
  · have he : e ∈ es.toList := List.mem_of_getElem? h2
    obtain ⟨_, hv, s', hs', hk⟩ := SetIs.keys h e he
    rw [h3] at hk
    injection hk with hk
    subst hk
    exact .inr ⟨hs', 0 + j, by rw [h1, hv]⟩

variable {P : Program}
theorem SetIs.lookup (h : SetIs w r l) {t k e : TypeId} (ht : P.underlying t = some (.map k e)) (hk : P.underlying k = some .string) (hz : (zeroValue e).run P w = .ok (.bool false) w) (s : ByteArray) :
    (Instr.lookup t (.map (some r)) (.string s) false).run P w = .ok (.bool (inL l s)) w := by
  obtain ⟨es, c, hm, hl⟩ := h
  unfold Instr.lookup
  rcases SetIs.find hl s with ⟨h1, h2⟩ | ⟨h1, j, h2⟩
  · rw [inL_not.2 h1]
    simp [run_underlying ht, Go.MapKept.run_getObj_map hm, Go.MapKept.run_checkKey (P := P) (w := w) hk (k := .string s) trivial, Go.MapKept.run_findKey hk h2, Result.andThen, hz]
  · rw [inL_iff.2 h1]
    simp [run_underlying ht, Go.MapKept.run_getObj_map hm, Go.MapKept.run_checkKey (P := P) (w := w) hk (k := .string s) trivial, Go.MapKept.run_findKey hk h2, Result.andThen]

theorem wpList_set_add {ops : Array Oper} {rest : List Oper} {o : Oper} {a : Act} {Q : Exit → Act → World → Prop} (hgd : Region.wanted o (yielded ops a.tmps) = true) (m x y : Operand) {t k e : TypeId} (r : Nat) (l : List ByteArray) (s : ByteArray)
    (ho : o.op = .mapUpdate t m x y) (hd : o.dst = none) (ht : P.underlying t = some (.map k e)) (hk : P.underlying k = some .string) (hm : SetIs w r l) (em : a.eval m = .map (some r)) (ex : a.eval x = .string s) (ey : a.eval y = .bool true) (hs : s ∉ l)
    (h : ∀ w', SetIs w' r (l ++ [s]) → Kept (fun z => z = r) w w' → wpList P ops Q rest a w') : wpList P ops Q (o :: rest) a w := by
  obtain ⟨es, c, hh, hl⟩ := hm
  rcases SetIs.find hl s with ⟨h1, h2⟩ | ⟨h1, _⟩
  · refine BigFrame.wpList_want hgd fun K hK => ?_
    have hr : (Instr.mapUpdate t (.map (some r)) (.string s) (.bool true)).run P w = .ok () { w with heap := w.heap.setIfInBounds r (.map (es.push { key := .string s, val := .bool true, born := c }) (c + 1)) } := by
      unfold Instr.mapUpdate
      simp only [run_underlying ht, Sem.run_bind, Result.andThen_ok, Go.MapKept.run_getObj_map hh, Go.MapKept.run_checkKey (P := P) (w := w) hk (k := .string s) trivial, Go.MapKept.run_findKey hk h2, Go.MapKept.run_setObj_map _ hh]
    have hb := Go.MapKept.heap_set (o' := .map (es.push { key := .string s, val := .bool true, born := c }) (c + 1)) hh
    have hw := h { w with heap := w.heap.setIfInBounds r (.map (es.push { key := .string s, val := .bool true, born := c }) (c + 1)) } ⟨_, _, hb.1, by simp [hl]⟩ ⟨rfl, rfl, rfl, by simp, fun z _ hz => hb.2 z hz⟩
    unfold Oper.wp
    simp only [execOp, ho, em, ex, ey, hr, Sem.run_bind, Result.andThen_ok, Sem.run_pure, Oper.upon, hd]
    exact hK _ _ hw
  · exact absurd h1 hs
end
theorem run_makeMap_hint {P : Program} (t k e : TypeId) (kd : IntKind) (n : Int) (ht : P.underlying t = some (.map k e)) (w : World) :
    (Instr.makeMap t (some (.int kd n))).run P w = .ok (.map (some w.heap.size)) (w.alloc (.map #[] 0)) := by
  simp [Instr.makeMap, run_underlying ht]; rfl

def SetMade (w : World) (l : List ByteArray) (e : Ending) (w' : World) : Prop := ∃ r, e = .returned (.map (some r)) ∧ SetIs w' r l ∧ w.heap.size ≤ r ∧ Below w.heap.size w w'

set_option maxHeartbeats 1000000 in
set_option maxRecDepth 100000 in
theorem set_any (A : Option Addr) (n c : Nat) (l : List ByteArray) (w : World) (hr : RV w A n (l.map Value.string)) (hd : l.Nodup) (hn : n ≤ 1000) :
    Calls Tryd.prog 49 #[.slice A n c] w (SetMade w l) := by
  have hmk := fun W => run_makeMap_hint (P := Tryd.prog) 80 _ _ .i64 (n : Int) Tryd.underlying80 W
  have hln : l.length = n := by have := hr.len; simp at this; omega
  have HR := Lib.hid hr
  have HD := Lib.hid hd
  have HL := Lib.hid hln
  clear hr hd hln
  go_enter Tryd.func49, Tryd.ntmps49
  go_wp2_with fail
  go_loopw [11] (fun i wr => ∃ k : Nat, k ≤ n ∧ i = .int .i64 k ∧ Hid (SetIs wr w.heap.size (l.take k)) ∧ Below w.heap.size w wr) (fun i _ => n - (intOf i).toNat)
  case atStart => exact ⟨0, by omega, rfl, SetIs.new w, (Below.refl _ w).al _⟩
  case round =>
    obtain ⟨k, hk, rfl, hs, hb⟩ := hrel
    clear hmk
    by_cases hlt : k < n
    · obtain ⟨b, o, rfl, hbl, hkl, hc⟩ := (HR.out.below hb).at_ hlt
      have hkl' : k < l.length := by simpa using hkl
      have hnd : l[k] ∉ l.take k := by
        intro hm
        have h1 := List.take_append_drop k l
        have h2 := HD.out
        rw [← h1, List.nodup_append] at h2
        exact h2.2.2 _ hm _ (by rw [List.drop_eq_getElem_cons hkl']; exact List.mem_cons_self ..) rfl
      have HT := Lib.hid (List.take_succ_eq_append_getElem hkl')
      simp only [List.getElem_map] at hc
      have HN := Lib.hid hnd
      clear hnd
      generalize l[k] = s at *
      have g1 : (k : Int) < (n : Int) := by omega
      go_wp2_with (first | ((with_reducible show wpList _ _ _ (⟨none, Op.mapUpdate _ (.tmp 15) (.tmp 16) _, _, _, _, _⟩ :: _) _ _); refine wpList_set_add (by rfl) (.tmp 15) (.tmp 16) _ w.heap.size (l.take k) s rfl rfl Tryd.underlying80 Tryd.underlying9 hs.out rfl rfl rfl HN.out ?_; intro w2 s2 k2))
      have s3 : Hid (SetIs w2 w.heap.size (l.take (k + 1))) := by rw [Hid, HT.out]; exact s2
      clear s2 hc hs
      go_wp2_with fail
      go_roundw
      case rel => exact ⟨k + 1, by omega, by go_num, s3, hb.trans (k2.to_below hb.size (fun q hq e => by omega))⟩
      case measure => simp [intOf]; omega
    · obtain rfl : k = n := by omega
      have h3 := hs.out
      rw [List.take_of_length_le (by rw [HL.out]; omega)] at h3
      have H3 := Lib.hid h3
      clear h3 hs
      go_wp2_with fail
      go_ret
      exact ⟨w.heap.size, rfl, H3.out, Nat.le_refl _, hb⟩
end Go.Proofs.YtdmlnoeneoomfaaDoor
