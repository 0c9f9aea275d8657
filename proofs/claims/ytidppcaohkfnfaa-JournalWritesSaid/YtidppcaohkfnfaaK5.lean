
/-
  Journals in memory: New, take, Len.
-/
import Derived.Test.YtidppcaohkfnfaaK2
import Derived.Test.YtidppcaohkfnfaaK4
namespace Go.Proofs.Ytidppcaohkfnfaa
open Go.RowKit

theorem rev_ind {α : Type} {P : List α → Prop} (h0 : P []) (h1 : ∀ l a, P l → P (l ++ [a])) (l : List α) : P l := by
  have key : ∀ r : List α, P r.reverse := by
    intro r
    induction r with
    | nil => exact h0
    | cons a r ih => rw [List.reverse_cons]; exact h1 _ _ ih
  have := key l.reverse
  rwa [List.reverse_reverse] at this
def lastR : List Me → Int → ByteArray → Option Nat
  | [], _, _ => none
  | m :: r, k, s => if k = m.kind ∧ s = m.key then some r.length else lastR r k s
/-- Where the last one of a place stands. -/
def lastI (ms : List Me) : Int → ByteArray → Option Nat := lastR ms.reverse
theorem lastI_append (ms : List Me) (m : Me) (k : Int) (s : ByteArray) : putF (lastI ms) m.kind m.key ms.length k s = lastI (ms ++ [m]) k s := by
  unfold lastI putF
  rw [List.reverse_append]
  show _ = lastR (m :: ms.reverse) k s
  simp only [lastR, List.length_reverse]
theorem lastI_some : ∀ {ms : List Me} {k : Int} {s : ByteArray} {i : Nat}, lastI ms k s = some i → ∃ h : i < ms.length, (ms[i]'h).kind = k ∧ (ms[i]'h).key = s := by
  intro ms
  refine rev_ind (P := fun ms => ∀ {k : Int} {s : ByteArray} {i : Nat}, lastI ms k s = some i → ∃ h : i < ms.length, (ms[i]'h).kind = k ∧ (ms[i]'h).key = s) ?_ ?_ ms
  · intro k s i h; simp [lastI, lastR] at h
  · intro ms m ih k s i h
    rw [← lastI_append, putF] at h
    split at h
    · rename_i hk
      injection h with h
      subst h
      refine ⟨by simp, ?_⟩
      simp [hk.1, hk.2]
    · obtain ⟨hi, h1, h2⟩ := ih h
      refine ⟨by simp; omega, ?_⟩
      rw [List.getElem_append_left hi]
      exact ⟨h1, h2⟩

/-- The journal ms lies at block g, its map at r, its entries at v; all its blocks are in S. -/
structure JAt (w : World) (S : Nat → Prop) (g r : Nat) (v : Value) (ms : List Me) : Prop where
  lt : ∀ k, S k → k < w.heap.size
  inG : S g
  inR : S r
  gr : g ≠ r
  inV : ∀ k, v.ownBlock = some k → S k ∧ k ≠ g ∧ k ≠ r
  blk : Blk w g 70 #[v, .map (some r)]
  row : w.ownsRow 0 45 3 v ms.length (meCells ms)
  ok : ∀ m ∈ ms, m.Ok (fun k => S k ∧ k ≠ g ∧ k ≠ r ∧ v.ownBlock ≠ some k) w
  right : ∀ m ∈ ms, m.Right
  map : PMap w r (lastI ms)
theorem own_other {w w' : World} {base size n : Nat} {e : TypeId} {v : Value} {xs : List Value} {T : Nat → Prop} (h : w.ownsRow base e size v n xs) (hk : Kept T w w') (hs : ∀ k, v.ownBlock = some k → ¬ T k) : w'.ownsRow base e size v n xs := by
  refine ⟨h.1, ?_⟩
  rcases h.2 with h2 | ⟨g, cap, cur, hv, hg, hh, r⟩
  · exact .inl h2
  · exact .inr ⟨g, cap, cur, hv, hg, (hk.block g (Blk.lt (t := e) (cs := cur) hh) (hs g (by rw [hv]; rfl))).trans hh, r⟩
section
variable {w w' : World} {S T : Nat → Prop} {g r : Nat} {v : Value} {ms : List Me}
theorem JAt.kept (h : JAt w S g r v ms) (hk : Kept T w w') (hs : ∀ k, S k → ¬ T k) : JAt w' S g r v ms :=
  ⟨fun k hk' => Nat.lt_of_lt_of_le (h.lt k hk') hk.size, h.inG, h.inR, h.gr, h.inV, h.blk.kept hk (hs _ h.inG), own_other h.row hk (fun k hv => hs k (h.inV k hv).1),
    fun m hm => (h.ok m hm).kept hk (fun k hd => hs k hd.1), h.right, h.map.kept hk (hs _ h.inR)⟩
theorem JAt.below (h : JAt w S g r v ms) (hb : Below w.heap.size w w') : JAt w' S g r v ms := h.kept (Kept.of_below (S := fun _ => False) hb) (fun _ _ h => h)
theorem JAt.drew (h : JAt w S g r v ms) : JAt w.drew S g r v ms := h.below (Below.refl _ w).drew
theorem JAt.slice (h : JAt w S g r v ms) : ∃ A c, v = .slice A ms.length c := own_slice h.row
theorem JAt.reads {A : Option Addr} {n c : Nat} (h : JAt w S g r (.slice A n c) ms) : n = ms.length ∧ n ≤ c ∧ c ≤ maxLen ∧ Reads w w.heap.size 3 A n (meCells ms) := by
  have hr := h.row
  rcases hr.2 with ⟨h1, h0⟩ | ⟨g', cap, cur, hv, _, _, hc, hm, _⟩
  · simp only [Value.slice.injEq] at h1
    obtain ⟨rfl, rfl, rfl⟩ := h1
    obtain rfl : ms = [] := List.eq_nil_of_length_eq_zero h0
    exact ⟨rfl, Nat.le_refl _, Nat.zero_le _, Reads.of_own hr⟩
  · simp only [Value.slice.injEq] at hv
    obtain ⟨rfl, rfl, rfl⟩ := hv
    exact ⟨rfl, hc, hm, Reads.of_own hr⟩
end

theorem run_makeMap_plain {P : Program} (t : TypeId) (w : World) : (Instr.makeMap t none).run P w = .ok (.map (some w.heap.size)) (w.alloc (.map #[] 0)) := rfl
/-- A new journal. -/
def JNew (w : World) (e : Ending) (w' : World) : Prop := ∃ g r, e = .returned (.pointer (some ⟨g, 0, none⟩)) ∧ JAt w' (fun k => k = g ∨ k = r) g r (.slice none 0 0) [] ∧ w.heap.size ≤ g ∧ w.heap.size ≤ r ∧ Below w.heap.size w w'
set_option maxRecDepth 100000 in
theorem new_any (w : World) : Calls Try.prog 22 #[] w (JNew w) := by
  have hmk := fun W => run_makeMap_plain (P := Try.prog) 68 W
  go_enter Try.func22, Try.ntmps22
  go_wp2_with fail
  clear hmk
  go_ret
  have hb := Blk.new (w.alloc (.map #[] 0)) 70 #[.slice none 0 0, .map (some w.heap.size)]
  have e1 : (w.alloc (.map #[] 0)).heap.size = w.heap.size + 1 := by simp
  rw [e1] at hb
  refine ⟨w.heap.size + 1, w.heap.size, by simp, ⟨fun k hk => by simp; omega, .inl rfl, .inr rfl, by omega, fun k hk => by simp [Value.ownBlock] at hk, hb, World.ownsRow_nil _ _ _ _, fun m hm => by simp at hm, fun m hm => by simp at hm, (PMap.new w).below ((Below.refl _ _).al _)⟩, by omega, Nat.le_refl _, ((Below.refl _ w).al _).al _⟩

set_option maxRecDepth 100000 in
theorem len_any (S : Nat → Prop) (g r : Nat) (v : Value) (ms : List Me) (w : World) (h : JAt w S g r v ms) :
    Calls Try.prog 24 #[.pointer (some ⟨g, 0, none⟩)] w fun e w' => e = .returned (.int .i64 ms.length) ∧ w = w' := by
  obtain ⟨A, c, rfl⟩ := h.slice
  have h0 : w.cell? ⟨g, 0, none⟩ = some (.slice A ms.length c) := h.blk.cell 0
  go_enter Try.func24, Try.ntmps24
  go_wp2_with fail
  go_ret
  exact ⟨rfl, rfl⟩
theorem info_entry : (Try.prog.info? 45).map (fun i => (i.zero, i.size, i.bytes)) = some (some (.agg #[.int .i64 0, .string ByteArray.empty, .slice none 0 0]), 3, 48) := by kernel_rfl
end Go.Proofs.Ytidppcaohkfnfaa
