
/-
  JournalSame: the law's walk.
-/
import Derived.Test.YtidppcaohkfnfaaK15
namespace Go.Proofs.Ytidppcaohkfnfaa
open Go.RowKit

theorem own_form {w : World} {base size n : Nat} {e : TypeId} {v : Value} {xs : List Value} (h : w.ownsRow base e size v n xs) : ∃ A c, v = .slice A n c ∧ n ≤ c ∧ c ≤ 9223372036854775807 ∧ Reads w w.heap.size size A n xs := by
  rcases h.2 with ⟨rfl, rfl⟩ | ⟨g, cap, cur, rfl, _, _, h1, h2, _⟩
  · exact ⟨none, 0, rfl, Nat.le_refl _, by omega, Reads.of_own h⟩
  · unfold maxLen at h2
    exact ⟨_, _, rfl, h1, h2, Reads.of_own h⟩
/-- Entries that come in. -/
structure Ins (w : World) (A : Option Addr) (n c : Nat) (ms : List Me) : Prop where
  rd : Reads w w.heap.size 3 A n (meCells ms)
  len : n = ms.length
  cap : n ≤ c
  cm : c ≤ 9223372036854775807
  ok : ∀ m ∈ ms, m.Ok (fun k => k < w.heap.size) w
theorem Ins.below {w w' : World} {A : Option Addr} {n c : Nat} {ms : List Me} (h : Ins w A n c ms) (hb : Below w.heap.size w w') : Ins w' A n c ms :=
  ⟨(h.rd.below hb).more hb.size, h.len, h.cap, h.cm, fun m hm => ((h.ok m hm).below hb).mono (fun _ hk _ => hk)⟩
/-- A list's entries that may be written down, cut. -/
def fillCut (ms : List Me) (most : Nat) : List En := fill ((ms.take most).map cutM)
theorem fillCut_len (ms : List Me) (most : Nat) : (fillCut ms most).length ≤ most := by
  have := fill_len ((ms.take most).map cutM)
  rw [List.length_map, List.length_take] at this
  unfold fillCut
  omega
/-- What Cut gives, whole. -/
def CutGot' (w : World) (ms : List Me) (most : Nat) (e : Ending) (w' : World) : Prop :=
  ∃ A n c, e = .returned (.slice A n c) ∧ n = ((ms.take most).map cutM).length ∧ n ≤ most ∧ n ≤ c ∧ c ≤ 9223372036854775807 ∧ Reads w' w'.heap.size 3 A n (meCells ((ms.take most).map cutM)) ∧
    (∀ m ∈ (ms.take most).map cutM, m.Ok (fun k => k < w.heap.size) w' ∧ m.n ≤ 65536 ∧ m.key.size ≤ 1000) ∧ Below w.heap.size w w'
theorem cut_any' (A : Option Addr) (n c : Nat) (ms : List Me) (most : Nat) (w : World) (h : Ins w A n c ms) (hm : most ≤ 100) :
    Calls Try.prog 12 #[.slice A n c, .int .i64 (most : Int)] w (CutGot' w ms most) := by
  refine (cut_any _ A n c ms most w h.rd h.len h.cap h.cm h.ok hm).mono ?_
  rintro e w' ⟨v, rfl, ho, hb⟩
  obtain ⟨A', c', rfl, h1, h2, h3⟩ := own_form ho
  refine ⟨A', _, c', rfl, rfl, by rw [List.length_map, List.length_take]; omega, h1, h2, h3, fun m hm' => ?_, hb⟩
  obtain ⟨x, hx, rfl⟩ := List.mem_map.1 hm'
  have h4 := cutM_len x
  exact ⟨(((h.ok x (List.mem_of_mem_take hx)).cut).below hb), by omega, by omega⟩
/-- What Filled gives of what Cut gave. -/
def FillGot' (w : World) (es : List En) (e : Ending) (w' : World) : Prop :=
  ∃ S g A c ns, e = .returned (.tuple #[.pointer (some ⟨g, 0, none⟩), .slice A es.length c, .bool true]) ∧ Jn w' S g es ∧ Reads w' w'.heap.size 3 A es.length (meCells ns) ∧ es.length ≤ c ∧ c ≤ 9223372036854775807 ∧ ns.map Me.en = es ∧ (∀ m ∈ ns, m.Ok (fun k => ¬ S k) w' ∧ m.Right) ∧
    (∀ k, S k → w.heap.size ≤ k) ∧ Hid (∀ ad, A = some ad → ¬ S ad.block) ∧ Below w.heap.size w w'
theorem filled_any' (A : Option Addr) (n c : Nat) (ms : List Me) (w : World) (hn : n = ms.length) (hm : n ≤ 100) (hc : n ≤ c) (hr : Reads w w.heap.size 3 A n (meCells ms)) (B : Nat) (hB : B ≤ w.heap.size)
    (hok : ∀ m ∈ ms, m.Ok (fun k => k < B) w ∧ m.n ≤ 65536 ∧ m.key.size ≤ 1000) :
    Calls Try.prog 11 #[.slice A n c] w (FillGot' w (fill ms)) := by
  refine (filled_any (fun k => k < B) A n c ms w hr hn hc (fun m hm' => (hok m hm').1) hm (fun k hk => by omega) (fun m hm' => (hok m hm').2)).mono ?_
  rintro e w' ⟨S, g, v, ns, rfl, hj, ho, hns, hnok, hS, hv, hb⟩
  obtain ⟨A', c', rfl, h1, h2, h3⟩ := own_form ho
  have hl : ns.length = (fill ms).length := by rw [← hns, List.length_map]
  rw [hl] at h1 h3 ho hv
  rw [hl]
  refine ⟨S, g, A', c', ns, rfl, hj, h3, h1, h2, hns, fun m hm' => ⟨(hnok m hm').mono (fun k _ hk hs => by have := hS k hs; omega), (Me.right_en (hnok m hm')).1 ?_⟩, hS, ?_, hb⟩
  · have h4 : m.en ∈ fill ms := by rw [← hns]; exact List.mem_map.2 ⟨m, hm', rfl⟩
    unfold fill at h4
    exact of_decide_eq_true (List.mem_filter.1 h4).2
  · rintro ad rfl
    rcases ho.2 with ⟨h4, _⟩ | ⟨g', cap, cur, h4, _⟩
    · cases h4
    · injection h4 with h4
      injection h4 with h4
      subst h4
      exact hv g' rfl
end Go.Proofs.Ytidppcaohkfnfaa
