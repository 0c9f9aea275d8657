
/-
  The document's parser of expressions: level. (Printed by wip/tools/gend6.py.)
-/
import Derived.Test.YtdgekckedchjbaaGreatDoorGL
import Derived.Deep.DeepCutAuto
namespace Go.Proofs.YtdgekckedchjbaaGreatDoor
open Go.RowKit

/-- The operation that is found among the first marks. -/
def opTo (l : List (List UInt8 × Int)) (r : List Tk) : Int := l.foldl (fun a p => if hasT p.1 r = true then p.2 else a) (-1)
theorem opTo_snoc (l : List (List UInt8 × Int)) (p : List UInt8 × Int) (r : List Tk) : opTo (l ++ [p]) r = if hasT p.1 r = true then p.2 else opTo l r := by
  unfold opTo
  rw [List.foldl_append]
  rfl
theorem fold_lookup {t : Tk} {r : List Tk} : ∀ (l : List (List UInt8 × Int)) (a : Int), (l.map Prod.fst).Nodup → (∀ p ∈ l, t.text = p.1 → t.kind = 3 ∨ t.kind = 4) → l.foldl (fun a p => if hasT p.1 (t :: r) = true then p.2 else a) a = (l.lookup t.text).getD a
  | [], a, _, _ => rfl
  | (x, o) :: l, a, hn, hk => by
    rw [List.map_cons, List.nodup_cons] at hn
    have ih := fun a => fold_lookup (r := r) l a hn.2 (fun p hp => hk p (List.mem_cons_of_mem _ hp))
    rw [List.foldl_cons, List.lookup_cons, ih]
    by_cases hx : t.text = x
    · have h1 : hasT x (t :: r) = true := by
        have := hk (x, o) (List.mem_cons_self ..) hx
        simp only [hasT, Bool.and_eq_true, Bool.or_eq_true, decide_eq_true_eq]
        exact ⟨this, hx⟩
      have h2 : l.lookup t.text = none := by
        rw [List.lookup_eq_none_iff]
        intro p hp
        have hne : t.text ≠ p.1 := fun e => hn.1 (List.mem_map.2 ⟨p, hp, by rw [← e, hx]⟩)
        simpa using hne
      rw [if_pos h1, h2, hx]
      simp
    · have h1 : ¬ hasT x (t :: r) = true := by
        intro h
        exact hx (hasT_t h).2
      have h2 : (t.text == x) = false := by simpa using hx
      rw [if_neg h1, h2]
theorem lvl_keys (k : Nat) (hk : k < 5) : ((lvlT k).map Prod.fst).Nodup ∧ (∀ p ∈ lvlT k, p.1 ∈ markTs ∧ 0 ≤ p.2 ∧ p.2 ≤ 17) ∧ (lvlT k).length = lvN k := by
  match k, hk with
  | 0, _ => decide
  | 1, _ => decide
  | 2, _ => decide
  | 3, _ => decide
  | 4, _ => decide
  | k + 5, h => exact absurd h (by omega)
theorem opTo_at {k : Nat} (hk : k < 5) {t : Tk} {r : List Tk} (hm : t.text ∈ markTs → t.kind = 3 ∨ t.kind = 4) : opTo (lvlT k) (t :: r) = (opAt k (t :: r)).getD (-1) :=
  fold_lookup (lvlT k) (-1) (lvl_keys k hk).1 (fun p hp e => hm (by rw [e]; exact ((lvl_keys k hk).2.1 p hp).1))
theorem lookup_mem2 {l : List (List UInt8 × Int)} {x : List UInt8} {v : Int} (h : l.lookup x = some v) : (x, v) ∈ l := by
  induction l with
  | nil => cases h
  | cons p l ih =>
    obtain ⟨a, b⟩ := p
    rw [List.lookup_cons] at h
    split at h
    · rename_i e
      injection h with h
      rw [h, show x = a from by simpa using e]
      exact List.mem_cons_self ..
    · exact List.mem_cons_of_mem _ (ih h)
theorem opAt_some {k : Nat} (hk : k < 5) {t : Tk} {r : List Tk} {op : Int} (h : opAt k (t :: r) = some op) : t.text ∈ markTs ∧ 0 ≤ op ∧ op ≤ 17 := by
  have := (lvl_keys k hk).2.1 _ (lookup_mem2 h)
  exact this
theorem five_at {row : Nat → List Value} {t t2 : TypeId} {w : World} {e : Ending} {w' : World} (h : FiveTo row t t2 w e w') : ∃ g : Nat, e = .returned (.slice (some ⟨g, 0, none⟩) 5 5) ∧ Below w.heap.size w w' ∧ ∃ r : Nat → Nat, (∀ k, k < 5 → w'.cell? ⟨g, k, none⟩ = some (.slice (some ⟨r k, 0, none⟩) (lvN k) (lvN k))) ∧ ∀ k j, k < 5 → w'.cell? ⟨r k, j, none⟩ = (row k)[j]? := by
  obtain ⟨g, h1, h2, r, h3, h4⟩ := h
  refine ⟨g, h1, h2, r, fun k hk => ?_, fun k j hk => ?_⟩
  · match k, hk with
    | 0, _ => exact h3.cell 0
    | 1, _ => exact h3.cell 1
    | 2, _ => exact h3.cell 2
    | 3, _ => exact h3.cell 3
    | 4, _ => exact h3.cell 4
    | k + 5, h => exact absurd h (by omega)
  · rw [(h4 k hk).cell j]
    simp
theorem marks_at {k j : Nat} (hj : j < (lvlT k).length) : (marksRow k)[j]? = some (.string (str (lvlT k)[j].1)) := by simp [marksRow, hj]
theorem ops_at {k j : Nat} (hj : j < (lvlT k).length) : (opsRow k)[j]? = some (.int .i64 (lvlT k)[j].2) := by simp [opsRow, hj]
/-- How much is left to do: the tokens, while all is well. -/
def LMd (ts : List Tk) (g : Nat) (w : World) : Nat := match w.cell? ⟨g, 2, none⟩, w.cell? ⟨g, 1, none⟩ with
  | some (.int _ 0), some (.int _ i) => 1 + (ts.length - i.toNat)
  | _, _ => 0
theorem LMd_eq {w : World} {g c : Nat} {A : Option Addr} {ts : List Tk} {i : Nat} {er : Int} (h : DP w g A c ts i er) : LMd ts g w = if er = 0 then 1 + (ts.length - i) else 0 := by
  unfold LMd
  have e1 : w.cell? ⟨g, 1, none⟩ = some (.int .i64 i) := h.blk.cell 1
  have e2 : w.cell? ⟨g, 2, none⟩ = some (.int .i64 er) := h.blk.cell 2
  rw [e1, e2]
  by_cases he : er = 0
  · subst he
    rw [if_pos rfl]
    simp
  · rw [if_neg he]
    split
    · rename_i h1 _
      injection h1 with h1
      injection h1 with _ h1
      exact absurd h1 he
    · rfl
/-- Where the loop of a level stands: so much of p is left to do. -/
def LRes (D : Nat → Prop) (k : Nat) (next : List Tk → PR) (ts : List Tk) (p : PR) (i : Nat) (er : Int) (cs : List Value) (w : World) : Prop :=
  (er = 0 ∧ ∃ x : Ex, p = loopJ k next (ts.drop i).length x (ts.drop i) ∧ GC D w 2513169434843 x.dep cs x.gx) ∨ (er ≠ 0 ∧ ∃ r e, p = .bad r e)
theorem LRes.kept {D E : Nat → Prop} {k : Nat} {next : List Tk → PR} {ts : List Tk} {p : PR} {i : Nat} {er : Int} {cs : List Value} {w w' : World} {S : Nat → Prop} (h : LRes D k next ts p i er cs w) (hk : Kept S w w') (hs : ∀ z, z < w.heap.size → D z → ¬ S z) (hE : ∀ z, z < w.heap.size → D z → E z) : LRes E k next ts p i er cs w' := by
  rcases h with ⟨h1, x, h2, h3⟩ | h
  · exact .inl ⟨h1, x, h2, GC.kept hk hs hE _ _ _ h3⟩
  · exact .inr h
section
variable {D : Nat → Prop} {base k : Nat} {next : List Tk → PR} {ts : List Tk} {p : PR} {i i9 : Nat} {er er9 : Int} {cs cs2 : List Value} {w w' : World}
theorem LRes.start {m : Nat} {f : List Tk → PR} {i0 : Nat} (h : DRes base ts (joinL f m (ts.drop i0)) i er cs w) (hm : k + m = 4) : LRes (fun z => base ≤ z) k (joinL f m) ts (joinL f (m + 1) (ts.drop i0)) i er cs w := by
  rcases h with ⟨h1, x, h2, h3⟩ | ⟨h1, r, e, h2⟩
  · refine .inl ⟨h1, x, ?_, h3⟩
    rw [joinL, h2, show 4 - m = k by omega]
  · exact .inr ⟨h1, r, e, by rw [joinL, h2]⟩
theorem LRes.bad (h : LRes D k next ts p i er cs w) (he : er ≠ 0) : DRes base ts p i er cs w := by
  rcases h with ⟨h1, _⟩ | h
  · exact absurd h1 he
  · exact .inr h
theorem LRes.none_ (h : LRes D k next ts p i 0 cs w) (hi : i < ts.length) (ho : opAt k (ts.drop i) = none) (hE : ∀ z, D z → base ≤ z) : DRes base ts p i 0 cs w := by
  rcases h with ⟨_, x, h2, h3⟩ | ⟨h, _⟩
  · refine .inl ⟨rfl, x, ?_, GC.kept (Kept.refl (fun _ => False) w) (fun _ _ _ e => e) (fun z _ hz => hE z hz) _ _ _ h3⟩
    obtain ⟨n, hn⟩ : ∃ n, (ts.drop i).length = n + 1 := ⟨(ts.drop i).length - 1, by rw [List.length_drop]; omega⟩
    rw [h2, hn, loopJ, ho]
  · exact absurd rfl h
theorem DRes.toD (h : DRes base ts p i er cs w) {S : Nat → Prop} (hk : Kept S w w') (hs : ∀ z, z < w.heap.size → base ≤ z → ¬ S z) (hE : ∀ z, z < w.heap.size → base ≤ z → D z) : (er = 0 ∧ ∃ y : Ex, p = .ok y (ts.drop i) ∧ GC D w' 2513169434843 y.dep cs y.gx) ∨ (er ≠ 0 ∧ ∃ r e, p = .bad r e) := by
  rcases h with ⟨h1, x, h2, h3⟩ | h
  · exact .inl ⟨h1, x, h2, GC.kept hk hs hE _ _ _ h3⟩
  · exact .inr h
theorem gc_bin {op : Int} {g : Nat} {t : TypeId} {c1 c2 : List Value} {x y : Ex} (hb : Blk w g t (List.toArray (c1 ++ c2))) (hD : D g) (hl : c1.length = 4) (hl2 : c2.length = 4) (h : GC D w 2513169434843 x.dep c1 x.gx) (h2 : GC D w 2513169434843 y.dep c2 y.gx) :
    GC D w 2513169434843 (Ex.bin op x y).dep [.int .i64 op, .int .i64 0, .string ⟨#[]⟩, .slice (some ⟨g, 0, none⟩) 2 2] (Ex.bin op x y).gx :=
  ⟨_, _, _, rfl, els_two (by omega) hb hD hl hl2 (h.deeper (Nat.le_max_left _ _)) (h2.deeper (Nat.le_max_right _ _))⟩
/-- A mark is passed over, an operand read: on goes the loop, or it ends. -/
theorem LRes.step (hn : Eats next) (h : LRes D k next ts p i 0 cs w) (hi : i + 1 < ts.length) {op : Int} (ho : opAt k (ts.drop i) = some op) (h9 : (er9 = 0 ∧ ∃ y : Ex, next (ts.drop (i + 1)) = .ok y (ts.drop i9) ∧ GC D w 2513169434843 y.dep cs2 y.gx) ∨ (er9 ≠ 0 ∧ ∃ r e, next (ts.drop (i + 1)) = .bad r e)) (hE : ∀ z, D z → base ≤ z) {g : Nat} {t : TypeId} (hb : Blk w g t (List.toArray (cs ++ cs2))) (hD : D g) (hl : cs.length = 4) (hl2 : cs2.length = 4) :
    (k ≠ 2 → LRes D k next ts p i9 er9 [.int .i64 op, .int .i64 0, .string ⟨#[]⟩, .slice (some ⟨g, 0, none⟩) 2 2] w) ∧ (k = 2 → DRes base ts p i9 er9 [.int .i64 op, .int .i64 0, .string ⟨#[]⟩, .slice (some ⟨g, 0, none⟩) 2 2] w) ∧ (er9 = 0 → i9 < ts.length → i + 1 < i9) := by
  rcases h with ⟨_, x, h2, h3⟩ | ⟨h, _⟩
  · have hd : ts.drop i = ts[i]'(by omega) :: ts.drop (i + 1) := List.drop_eq_getElem_cons (by omega)
    obtain ⟨n, hn1⟩ : ∃ n, (ts.drop i).length = n + 1 := ⟨(ts.drop i).length - 1, by rw [List.length_drop]; omega⟩
    have hnl : n = ts.length - (i + 1) := by rw [List.length_drop] at hn1; omega
    have ht : (ts.drop i).tail = ts.drop (i + 1) := by rw [List.tail_drop]
    rw [hn1, loopJ, ho] at h2
    simp only at h2
    rw [ht] at h2
    rcases h9 with ⟨e9, y, q2, q3⟩ | ⟨e9, r, e, q2⟩
    · rw [q2] at h2
      simp only at h2
      have heat := hn _ _ _ q2
      rw [List.length_drop, List.length_drop] at heat
      have hg := gc_bin (op := op) hb hD hl hl2 h3 q3
      refine ⟨fun hk => .inl ⟨e9, _, ?_, hg⟩, fun hk => .inl ⟨e9, _, ?_, GC.kept (Kept.refl (fun _ => False) w) (fun _ _ _ e => e) (fun z _ hz => hE z hz) _ _ _ hg⟩, fun _ h => by omega⟩
      · rw [if_neg hk] at h2
        rw [h2]
        exact loopJ_more hn _ (ts.drop i9) (Nat.le_refl _) n _ (by rw [List.length_drop]; omega)
      · rw [if_pos hk] at h2
        exact h2
    · rw [q2] at h2
      exact ⟨fun _ => .inr ⟨e9, _, _, h2⟩, fun _ => .inr ⟨e9, _, _, h2⟩, fun h => absurd h e9⟩
  · exact absurd rfl h
end

set_option maxHeartbeats 4000000 in
set_option maxRecDepth 100000 in
theorem level_five (g c : Nat) (A : Option Addr) (ts : List Tk) (d : Nat) (HP : RPlainOk g c A ts d) : RLevelOk g c A ts d 5 := by
  intro dp i w hdp h
  have HPP := Lib.hid HP
  clear HP
  have HH := Lib.hid h
  have hgl := h.blk.lt
  have hlim := h.lim
  have hat := h.at_
  have x1 := Blk.new w 24 #[.int .i64 0, .int .i64 0, .string ⟨#[]⟩, .slice none 0 0]
  have f1 : Below w.heap.size w (w.alloc (.cells #[.int .i64 0, .int .i64 0, .string ⟨#[]⟩, .slice none 0 0] 24)) := (Below.refl _ w).al _
  have D1 := Lib.hid (h.below f1)
  have K1 := Lib.hid (Kept.of_below (S := fun z => z = g) f1)
  have X1 := Lib.hid x1
  clear h
  go_enter Tryz.func81, Tryz.ntmps81
  go_upto_region 1 with fail
  generalize w.alloc (.cells #[.int .i64 0, .int .i64 0, .string ⟨#[]⟩, .slice none 0 0] 24) = W1 at *
  clear x1 f1
  have PL := Lib.hid (HPP.out dp i W1 hdp D1.out)
  go_wp2_with fail
  refine PL.out.mono ?_
  rintro e w4 ⟨op4, N4, nm4, B4, l4, k4, i4, er4, rfl, d4, kk4, r4⟩
  have D4 := Lib.hid d4
  have K4 := Lib.hid (K1.out.then_ kk4 (fun _ _ e => e))
  have X4 := Lib.hid (X1.out.kept kk4 (by omega))
  have hw2 := X1.out.lt
  have R4 := Lib.hid (r4.kept (base' := w.heap.size + 1) (Kept.refl (fun _ => False) w4) (fun _ _ _ e => e) (by omega))
  clear d4 kk4 r4 PL
  have v0 : w4.cell? ⟨w.heap.size, 0, none⟩ = some (.int .i64 0) := X4.out.cell 0
  have y0 := X4.out.frozen 0
  have v1 : w4.cell? ⟨w.heap.size, 1, none⟩ = some (.int .i64 0) := X4.out.cell 1
  have y1 := X4.out.frozen 1
  have v2 : w4.cell? ⟨w.heap.size, 2, none⟩ = some (.string ⟨#[]⟩) := X4.out.cell 2
  have y2 := X4.out.frozen 2
  have v3 : w4.cell? ⟨w.heap.size, 3, none⟩ = some (.slice none 0 0) := X4.out.cell 3
  have y3 := X4.out.frozen 3
  have Y9 := X4.out.put4 (.int .i64 op4) (.int .i64 N4) (.string nm4) (.slice B4 l4 k4)
  have K9 := Kept.put4 w4 w.heap.size (.int .i64 op4) (.int .i64 N4) (.string nm4) (.slice B4 l4 k4)
  go_wp2_with fail
  clear v0 v1 v2 v3 y0 y1 y2 y3
  generalize (((w4.setCell ⟨w.heap.size, 0, none⟩ (.int .i64 op4)).setCell ⟨w.heap.size, 1, none⟩ (.int .i64 N4)).setCell ⟨w.heap.size, 2, none⟩ (.string nm4)).setCell ⟨w.heap.size, 3, none⟩ (.slice B4 l4 k4) = W9 at *
  have s0 : W9.cell? ⟨w.heap.size, 0, none⟩ = some (.int .i64 op4) := Y9.cell 0
  have s1 : W9.cell? ⟨w.heap.size, 1, none⟩ = some (.int .i64 N4) := Y9.cell 1
  have s2 : W9.cell? ⟨w.heap.size, 2, none⟩ = some (.string nm4) := Y9.cell 2
  have s3 : W9.cell? ⟨w.heap.size, 3, none⟩ = some (.slice B4 l4 k4) := Y9.cell 3
  refine bodyPost_ret (v := .agg #[.int .i64 op4, .int .i64 N4, .string nm4, .slice B4 l4 k4]) (by simp [results, Tryz.results81, go_sem, s0, s1, s2, s3]) rfl ?_
  obtain ⟨d9, k9, r9⟩ := dex_mk HH.out D4.out K4.out K9 R4.out
  exact ⟨_, _, _, _, _, _, _, _, rfl, d9, k9, r9⟩

set_option maxHeartbeats 4000000 in
set_option maxRecDepth 100000 in
theorem level_step (g c : Nat) (A : Option Addr) (ts : List Tk) (d k : Nat) (hk5 : k < 5) (HL : RLevelOk g c A ts d (k + 1)) : RLevelOk g c A ts d k := by
  intro dp i0 w hdp h
  have HLL := Lib.hid HL
  obtain ⟨m, hm⟩ : ∃ m, k + m = 4 := ⟨4 - k, by omega⟩
  have HEAT := Lib.hid (joinL_eats (plainD_eats d) m)
  have HK2 := Lib.hid (lvl_keys k hk5)
  rw [show 5 - k = m + 1 by omega]
  clear HL
  have HH := Lib.hid h
  have hgl := h.blk.lt
  have hlim := h.lim
  have hat := h.at_
  have wk1 : IntKind.i64.wrap ((k : Int) + 1) = (k : Int) + 1 := IntWalk.i64_in _ ⟨by omega, by omega⟩
  have nk5 : ¬ (k : Int) = 5 := by omega
  have z0 : (0 : Int) ≤ (k : Int) := by omega
  have z5 : (k : Int) < 5 := by omega
  have x1 := Blk.new w 24 #[.int .i64 0, .int .i64 0, .string ⟨#[]⟩, .slice none 0 0]
  have f1 : Below w.heap.size w (w.alloc (.cells #[.int .i64 0, .int .i64 0, .string ⟨#[]⟩, .slice none 0 0] 24)) := (Below.refl _ w).al _
  have D1 := Lib.hid (h.below f1)
  have K1 := Lib.hid (Kept.of_below (S := fun z => z = g) f1)
  have X1 := Lib.hid x1
  clear h
  go_enter Tryz.func81, Tryz.ntmps81
  go_upto_region 1 with fail
  generalize w.alloc (.cells #[.int .i64 0, .int .i64 0, .string ⟨#[]⟩, .slice none 0 0] 24) = W1 at *
  clear x1 f1
  have LV := Lib.hid (HLL.out dp i0 W1 hdp D1.out)
  rw [show 5 - (k + 1) = m by omega] at LV
  go_wp2_with fail
  refine LV.out.mono ?_
  rintro e w2 ⟨op2, N2, nm2, B2, l2, k2, i2, er2, rfl, d2, kk2, r2⟩
  have hw1 := X1.out.lt
  have D2 := Lib.hid d2
  have K2 := Lib.hid (K1.out.then_ kk2 (fun _ _ e => e))
  have X2 := Lib.hid (X1.out.kept kk2 (by omega))
  have R2 := Lib.hid r2
  clear d2 kk2 r2 LV
  have y3 := Blk.new w2 24 #[.int .i64 op2, .int .i64 N2, .string nm2, .slice B2 l2 k2]
  have f3 : Below w2.heap.size w2 (w2.alloc (.cells #[.int .i64 op2, .int .i64 N2, .string nm2, .slice B2 l2 k2] 24)) := (Below.refl _ w2).al _
  have D3 := Lib.hid (D2.out.below f3)
  have K3 := Lib.hid (K2.out.below_ f3)
  have X3 := Lib.hid (X2.out.below f3 X2.out.lt)
  have Y3 := Lib.hid y3
  have R3 := Lib.hid ((LRes.start (k := k) R2.out hm).kept (E := fun z => w.heap.size + 1 ≤ z ∧ z ≠ w2.heap.size) (Kept.of_below (S := fun _ => False) f3) (fun _ _ _ e => e) (fun z hz hb => ⟨by omega, by omega⟩))
  have hbe := X2.out.lt
  go_wp2_with fail
  obtain ⟨be, hbe2⟩ : ∃ b, w2.heap.size = b := ⟨_, rfl⟩
  generalize joinL (plainD d) (m + 1) (ts.drop i0) = P0 at *
  generalize w2.alloc (.cells #[.int .i64 op2, .int .i64 N2, .string nm2, .slice B2 l2 k2] 24) = W3 at *
  rw [hbe2] at Y3 R3 hbe
  rw [hbe2]
  clear y3 f3 hbe2 R2 D2 K2 X2
  go_loopw [8] (fun _ wr => ∃ (i : Nat) (er op N : Int) (nm : ByteArray) (B : Option Addr) (l kk : Nat), Hid (DP wr g A c ts i er) ∧ Hid (Kept (fun z => z = g) w wr) ∧ Hid (Blk wr w.heap.size 24 #[.int .i64 0, .int .i64 0, .string ⟨#[]⟩, .slice none 0 0]) ∧ Hid (Blk wr be 24 #[.int .i64 op, .int .i64 N, .string nm, .slice B l kk]) ∧ Hid (LRes (fun z => w.heap.size + 1 ≤ z ∧ z ≠ be) k (joinL (plainD d) m) ts P0 i er [.int .i64 op, .int .i64 N, .string nm, .slice B l kk] wr)) (fun _ wr => LMd ts g wr)
  case atStart => exact ⟨i2, er2, op2, N2, nm2, B2, l2, k2, D3.out, K3.out, X3.out, Y3.out, R3.out⟩
  case round =>
    obtain ⟨i, er, op, N, nm, B, l, kk, DD, KK, XX, YY, RR⟩ := hrel
    obtain ⟨wo, rfl⟩ : ∃ x, x = wr := ⟨_, rfl⟩
    have c2 : wo.cell? ⟨g, 2, none⟩ = some (.int .i64 er) := DD.out.blk.cell 2
    by_cases he : er = 0
    rotate_left
    · have he' : ((er : Int) == 0) = false := by simp [he]
      have RB : Hid (DRes (w.heap.size + 1) ts P0 i er [.int .i64 op, .int .i64 N, .string nm, .slice B l kk] wo) := RR.out.bad he
      have p0 := YY.out.cell 0
      have p1 := YY.out.cell 1
      have p2 := YY.out.cell 2
      have p3 := YY.out.cell 3
      have v0 : wo.cell? ⟨w.heap.size, 0, none⟩ = some (.int .i64 0) := XX.out.cell 0
      have y0 := XX.out.frozen 0
      have v1 : wo.cell? ⟨w.heap.size, 1, none⟩ = some (.int .i64 0) := XX.out.cell 1
      have y1 := XX.out.frozen 1
      have v2 : wo.cell? ⟨w.heap.size, 2, none⟩ = some (.string ⟨#[]⟩) := XX.out.cell 2
      have y2 := XX.out.frozen 2
      have v3 : wo.cell? ⟨w.heap.size, 3, none⟩ = some (.slice none 0 0) := XX.out.cell 3
      have y3 := XX.out.frozen 3
      have Y9 := XX.out.put4 (.int .i64 op) (.int .i64 N) (.string nm) (.slice B l kk)
      have K9 := Kept.put4 wo w.heap.size (.int .i64 op) (.int .i64 N) (.string nm) (.slice B l kk)
      go_wp2_with fail
      clear p0 p1 p2 p3 v0 v1 v2 v3 y0 y1 y2 y3
      generalize (((wo.setCell ⟨w.heap.size, 0, none⟩ (.int .i64 op)).setCell ⟨w.heap.size, 1, none⟩ (.int .i64 N)).setCell ⟨w.heap.size, 2, none⟩ (.string nm)).setCell ⟨w.heap.size, 3, none⟩ (.slice B l kk) = W9 at *
      have s0 : W9.cell? ⟨w.heap.size, 0, none⟩ = some (.int .i64 op) := Y9.cell 0
      have s1 : W9.cell? ⟨w.heap.size, 1, none⟩ = some (.int .i64 N) := Y9.cell 1
      have s2 : W9.cell? ⟨w.heap.size, 2, none⟩ = some (.string nm) := Y9.cell 2
      have s3 : W9.cell? ⟨w.heap.size, 3, none⟩ = some (.slice B l kk) := Y9.cell 3
      refine bodyPost_ret (v := .agg #[.int .i64 op, .int .i64 N, .string nm, .slice B l kk]) (by simp [results, Tryz.results81, go_sem, s0, s1, s2, s3]) rfl ?_
      obtain ⟨d9, k9, r9⟩ := dex_mk HH.out DD.out KK.out K9 RB.out
      exact ⟨_, _, _, _, _, _, _, _, rfl, d9, k9, r9⟩
    subst he
    obtain ⟨t, ht⟩ := DD.out.one
    have HTK := Lib.hid ht
    have HDT := Lib.hid (drop_tok ht)
    have hio := DD.out.at_
    have HMK : Hid (t.text ∈ markTs → t.kind = 3 ∨ t.kind = 4) := DD.out.mark t (List.mem_of_getElem? ht)
    have hwo := KK.out.size
    have hxo := XX.out.lt
    clear ht
    go_wp2_with fail
    clear c2
    go_loopw [8, 9] (fun ov iv wq => ∃ j : Nat, j ≤ lvN k ∧ iv = .int .i64 j ∧ ov = .int .i64 (opTo ((lvlT k).take j) (ts.drop i)) ∧ Hid (Below wo.heap.size wo wq)) (fun _ iv _ => lvN k - (intOf iv).toNat)
    case atStart => exact ⟨0, by omega, rfl, by simp [opTo], Below.refl _ _⟩
    case round =>
      obtain ⟨j, hj, rfl, rfl, hbq⟩ := hrel
      obtain ⟨wq, rfl⟩ : ∃ x, x = wr := ⟨_, rfl⟩
      obtain ⟨ov, hov⟩ : ∃ x, opTo ((lvlT k).take j) (ts.drop i) = x := ⟨_, rfl⟩
      rw [hov]
      have HOV := Lib.hid hov
      have LE := Lib.hid (levels_any wq)
      have hlv : lvN k ≤ 6 := by
        match k, hk5 with
        | 0, _ => decide
        | 1, _ => decide
        | 2, _ => decide
        | 3, _ => decide
        | 4, _ => decide
        | k + 5, h => exact absurd h (by omega)
      clear hov
      go_wp2_with fail
      refine LE.out.mono ?_
      rintro e w5 h5
      obtain ⟨g5, rfl, b5, r5, q5, -⟩ := five_at h5
      have qk5 := q5 k hk5
      have F5 := Lib.hid (hbq.out.trans (b5.mono hbq.out.size))
      clear b5 q5 h5 LE
      by_cases hjl : j < lvN k
      · have hjt : j < (lvlT k).length := by rw [HK2.out.2.2]; exact hjl
        have LE2 := Lib.hid (levels_any w5)
        have hjz : (0 : Int) ≤ (j : Int) := by omega
        have hjz2 : (j : Int) < (lvN k : Int) := by omega
        go_wp2_with fail
        refine LE2.out.mono ?_
        rintro e w6 h6
        obtain ⟨g6, rfl, b6, r6, q6, q6'⟩ := five_at h6
        have qk6 := q6 k hk5
        have qm6 := (q6' k j hk5).trans (marks_at hjt)
        have F6 := Lib.hid (F5.out.trans (b6.mono F5.out.size))
        have IS := Lib.hid (is_any g c A ts i 0 (str (lvlT k)[j].1) w6 (DD.out.below F6.out))
        rw [str_list] at IS
        obtain ⟨bm, hbm⟩ : ∃ b, hasT (lvlT k)[j].1 (ts.drop i) = b := ⟨_, rfl⟩
        rw [hbm] at IS
        have HNX : Hid (opTo ((lvlT k).take (j + 1)) (ts.drop i) = if bm = true then (lvlT k)[j].2 else ov) := by
          rw [Hid, List.take_succ_eq_append_getElem hjt, opTo_snoc, hbm, HOV.out]
        generalize hmj : (lvlT k)[j].1 = mj at *
        generalize hoj : (lvlT k)[j].2 = oj at *
        have HOJ := Lib.hid hoj
        clear b6 q6 q6' h6 LE2 hbm qk5 hmj hoj
        go_wp2_with fail
        refine IS.out.mono ?_
        rintro e w7 ⟨rfl, b7⟩
        have F7 := Lib.hid (F6.out.trans (b7.mono F6.out.size))
        clear b7 IS qk6 qm6
        cases bm
        · go_wp2_with fail
          go_roundw
          case rel => exact ⟨j + 1, by omega, by go_num, by rw [HNX.out]; rfl, F7.out⟩
          case measure => simp [intOf]; omega
        · have OP := Lib.hid (ops_any w7)
          go_wp2_with fail
          refine OP.out.mono ?_
          rintro e w8 h8
          obtain ⟨g8, rfl, b8, r8, q8, q8'⟩ := five_at h8
          have qk8 := q8 k hk5
          have qm8 := (q8' k j hk5).trans (ops_at hjt)
          rw [HOJ.out] at qm8
          have F8 := Lib.hid (F7.out.trans (b8.mono F7.out.size))
          clear b8 q8 q8' h8 OP
          go_wp2_with fail
          go_roundw
          case rel => exact ⟨j + 1, by omega, by go_num, by rw [HNX.out]; rfl, F8.out⟩
          case measure => simp [intOf]; omega
      · obtain rfl : j = lvN k := by omega
        have HFO : Hid (ov = (opAt k (ts.drop i)).getD (-1)) := by
          rw [Hid, ← HOV.out, List.take_of_length_le (by rw [HK2.out.2.2]; exact Nat.le_refl _), HDT.out]
          exact opTo_at hk5 HMK.out
        have Dq := Lib.hid (DD.out.below F5.out)
        have Kq := Lib.hid (KK.out.below_ F5.out)
        have Xq := Lib.hid (XX.out.below F5.out XX.out.lt)
        have Yq := Lib.hid (YY.out.below F5.out YY.out.lt)
        have Rq := Lib.hid (RR.out.kept (E := fun z => w.heap.size + 1 ≤ z ∧ z ≠ be) (Kept.of_below (S := fun _ => False) F5.out) (fun _ _ _ e => e) (fun _ _ h => h))
        have hyb := YY.out.lt
        have f5z := F5.out.size
        cases ho : opAt k (ts.drop i) with
        | none =>
          have hv : ov = -1 := by rw [HFO.out, ho]; rfl
          have RB : Hid (DRes (w.heap.size + 1) ts P0 i 0 [.int .i64 op, .int .i64 N, .string nm, .slice B l kk] w5) := Rq.out.none_ hio ho (fun z hz => hz.1)
          subst hv
          clear ho
          have p0 := Yq.out.cell 0
          have p1 := Yq.out.cell 1
          have p2 := Yq.out.cell 2
          have p3 := Yq.out.cell 3
          have v0 : w5.cell? ⟨w.heap.size, 0, none⟩ = some (.int .i64 0) := Xq.out.cell 0
          have y0 := Xq.out.frozen 0
          have v1 : w5.cell? ⟨w.heap.size, 1, none⟩ = some (.int .i64 0) := Xq.out.cell 1
          have y1 := Xq.out.frozen 1
          have v2 : w5.cell? ⟨w.heap.size, 2, none⟩ = some (.string ⟨#[]⟩) := Xq.out.cell 2
          have y2 := Xq.out.frozen 2
          have v3 : w5.cell? ⟨w.heap.size, 3, none⟩ = some (.slice none 0 0) := Xq.out.cell 3
          have y3 := Xq.out.frozen 3
          have Y9 := Xq.out.put4 (.int .i64 op) (.int .i64 N) (.string nm) (.slice B l kk)
          have K9 := Kept.put4 w5 w.heap.size (.int .i64 op) (.int .i64 N) (.string nm) (.slice B l kk)
          go_wp2_with fail
          clear p0 p1 p2 p3 v0 v1 v2 v3 y0 y1 y2 y3
          generalize (((w5.setCell ⟨w.heap.size, 0, none⟩ (.int .i64 op)).setCell ⟨w.heap.size, 1, none⟩ (.int .i64 N)).setCell ⟨w.heap.size, 2, none⟩ (.string nm)).setCell ⟨w.heap.size, 3, none⟩ (.slice B l kk) = W9 at *
          have s0 : W9.cell? ⟨w.heap.size, 0, none⟩ = some (.int .i64 op) := Y9.cell 0
          have s1 : W9.cell? ⟨w.heap.size, 1, none⟩ = some (.int .i64 N) := Y9.cell 1
          have s2 : W9.cell? ⟨w.heap.size, 2, none⟩ = some (.string nm) := Y9.cell 2
          have s3 : W9.cell? ⟨w.heap.size, 3, none⟩ = some (.slice B l kk) := Y9.cell 3
          refine bodyPost_ret (v := .agg #[.int .i64 op, .int .i64 N, .string nm, .slice B l kk]) (by simp [results, Tryz.results81, go_sem, s0, s1, s2, s3]) rfl ?_
          obtain ⟨d9, k9, r9⟩ := dex_mk HH.out Dq.out Kq.out K9 RB.out
          exact ⟨_, _, _, _, _, _, _, _, rfl, d9, k9, r9⟩
        | some o =>
          have hv : ov = o := by rw [HFO.out, ho]; rfl
          obtain ⟨hmk, ho0, ho17⟩ := opAt_some hk5 (by rw [← HDT.out]; exact ho)
          have hkind := HMK.out hmk
          have hm1 : i + 1 < ts.length := Dq.out.more t i HTK.out (by omega)
          have HO := Lib.hid ho
          subst hv
          have hneg : ¬ ov < 0 := by omega
          clear ho
          have y1 : w5.cell? ⟨g, 1, none⟩ = some (.int .i64 (i : Nat)) := Dq.out.blk.cell 1
          have u1 := Dq.out.blk.frozen 1
          have wiu : IntKind.i64.wrap ((i : Int) + 1) = ((i : Int) + 1) := IntWalk.i64_in _ ⟨by omega, by omega⟩
          have KS := (Kept.refl (fun z => z = g) w5).setCell (p := ⟨g, 1, none⟩) (fun _ => rfl) (.int .i64 ((i : Int) + 1))
          have BS : Blk (w5.setCell ⟨g, 1, none⟩ (.int .i64 ((i : Int) + 1))) g 105 #[.slice A ts.length c, .int .i64 ((i + 1 : Nat) : Int), .int .i64 0] := by
            have := Dq.out.blk.set_ 1 (.int .i64 ((i : Int) + 1))
            simpa using this
          have Du := Lib.hid (Dq.out.put KS (fun _ _ e => e) hm1 BS)
          have Ku := Lib.hid (Kq.out.then_ KS (fun _ _ e => e))
          have Xu := Lib.hid (Xq.out.kept KS (by omega))
          have KSu := Lib.hid KS
          clear KS BS
          go_upto_region 13 with fail
          generalize w5.setCell ⟨g, 1, none⟩ (.int .i64 ((i : Int) + 1)) = W8 at *
          have D8 := Lib.hid (Du.out.below (Below.refl _ W8).drew)
          have CL := Lib.hid (HLL.out dp (i + 1) W8.drew hdp D8.out)
          rw [show 5 - (k + 1) = m by omega, show ((k + 1 : Nat) : Int) = (k : Int) + 1 from by omega] at CL
          have Yu := Lib.hid (Yq.out.kept (S := fun z => z = g) KSu.out (by omega))
          have Ru := Lib.hid (Rq.out.kept (E := fun z => w.heap.size + 1 ≤ z ∧ z ≠ be) KSu.out (fun z _ hz e => by omega) (fun _ _ h => h))
          have a0 : W8.drew.cell? ⟨be, 0, none⟩ = some (.int .i64 op) := Yu.out.cell 0
          have a1 : W8.drew.cell? ⟨be, 1, none⟩ = some (.int .i64 N) := Yu.out.cell 1
          have a2 : W8.drew.cell? ⟨be, 2, none⟩ = some (.string nm) := Yu.out.cell 2
          have a3 : W8.drew.cell? ⟨be, 3, none⟩ = some (.slice B l kk) := Yu.out.cell 3
          have YD := Lib.hid (Yu.out.drew)
          have z8 : W8.drew.heap.size = W8.heap.size := rfl
          have z8b := Ku.out.size
          go_region_law (first
            | (go_simp; go_at_call 81; (with_reducible refine CL.out.mono ?_); rintro e w9 ⟨op9, N9, nm9, B9, l9, k9, i9, er9, rfl, d9, kk9, r9⟩; have y9 := YD.out.kept kk9 (by omega); have b0 := y9.cell 0; have b1 := y9.cell 1; have b2 := y9.cell 2; have b3 := y9.cell 3; have ya := y9.alloc (.cells #[.int .i64 op, .int .i64 N, .string nm, .slice B l kk, .int .i64 op9, .int .i64 N9, .string nm9, .slice B9 l9 k9] 24); have e0 := ya.cell 0; have e1 := ya.cell 1; have e2 := ya.cell 2; have e3 := ya.cell 3; have u0 := ya.frozen 0; have u1 := ya.frozen 1; have u2 := ya.frozen 2; have u3 := ya.frozen 3; have D9 := Lib.hid d9; have K9 := Lib.hid kk9; have R9 := Lib.hid r9; have YA := Lib.hid ya; clear d9 kk9 r9 ya))
          all_goals
            have f10 : Below w9.heap.size w9 (w9.alloc (.cells #[.int .i64 op, .int .i64 N, .string nm, .slice B l kk, .int .i64 op9, .int .i64 N9, .string nm9, .slice B9 l9 k9] 24)) := (Below.refl _ w9).al _
            have n10 := Blk.new w9 24 #[.int .i64 op, .int .i64 N, .string nm, .slice B l kk, .int .i64 op9, .int .i64 N9, .string nm9, .slice B9 l9 k9]
            have hz9 := K9.out.size
            have hz10 := f10.size
            have hby := Yu.out.lt
            have hbe9 : be < w9.heap.size := by omega
            have K8g : Kept (fun z => z = g) w W8.drew := Ku.out.drew
            have K10g := (K8g.then_ K9.out (fun _ _ e => e)).below_ f10
            have Y11 := Lib.hid (YA.out.put4 (.int .i64 ov) (.int .i64 0) (.string ⟨#[]⟩) (.slice (some ⟨w9.heap.size, 0, none⟩) 2 2))
            have K11 := Kept.put4 (w9.alloc (.cells #[.int .i64 op, .int .i64 N, .string nm, .slice B l kk, .int .i64 op9, .int .i64 N9, .string nm9, .slice B9 l9 k9] 24)) be (.int .i64 ov) (.int .i64 0) (.string ⟨#[]⟩) (.slice (some ⟨w9.heap.size, 0, none⟩) 2 2)
            have N11 := n10.kept K11 (by omega)
            have K8r : Kept (fun z => z = g) W8 W8.drew := (Kept.refl (fun z => z = g) W8).drew
            have X11 := Lib.hid ((((Xu.out.kept K8r (by omega)).kept K9.out (by omega)).below f10 (by omega)).kept K11 (by omega))
            have K11g := Lib.hid (K10g.then_ K11 (fun z hz e => by omega))
            have D11 := Lib.hid (HH.out.put K11g.out (fun _ _ e => e) D9.out.at_ ((D9.out.blk.below f10 D9.out.blk.lt).kept K11 (by omega)))
            have KW := (((K8r.mono (T := fun z => z = g ∨ z = be) (fun _ _ e => .inl e)).then_ K9.out (fun _ _ e => .inl e)).below_ f10).then_ K11 (fun _ _ e => .inr e)
            have R11 := Ru.out.kept (E := fun z => w.heap.size + 1 ≤ z ∧ z ≠ be) KW (fun z hz hd e => by rcases e with e | e <;> omega) (fun _ _ h => h)
            have h9 := R9.out.toD (D := fun z => w.heap.size + 1 ≤ z ∧ z ≠ be) (((Kept.refl (fun z => z = be) w9).below_ f10).then_ K11 (fun _ _ e => e)) (fun z hz (hb : W8.heap.size ≤ z) e => by omega) (fun z hz (hb : W8.heap.size ≤ z) => ⟨by omega, by omega⟩)
            obtain ⟨s1, s2, s3⟩ := LRes.step (base := w.heap.size + 1) HEAT.out R11 hm1 HO.out h9 (fun z hz => hz.1) N11 ⟨by omega, by omega⟩ rfl rfl
            have S1 := Lib.hid s1
            have S2 := Lib.hid s2
            have S3 := Lib.hid s3
            clear f10 n10 hz9 hz10 K8g K10g K11 N11 K8r KW R11 h9 s1 s2 s3 b0 b1 b2 b3 e0 e1 e2 e3 u0 u1 u2 u3 y9 a0 a1 a2 a3
            generalize ((((w9.alloc (.cells #[.int .i64 op, .int .i64 N, .string nm, .slice B l kk, .int .i64 op9, .int .i64 N9, .string nm9, .slice B9 l9 k9] 24)).setCell ⟨be, 0, none⟩ (.int .i64 ov)).setCell ⟨be, 1, none⟩ (.int .i64 0)).setCell ⟨be, 2, none⟩ (.string ⟨#[]⟩)).setCell ⟨be, 3, none⟩ (.slice (some ⟨w9.heap.size, 0, none⟩) 2 2) = W11 at *
            by_cases hk2 : k = 2
            · have ek2 : ((k : Int) == 2) = true := by simp [hk2]
              have RB := Lib.hid (S2.out hk2)
              clear hk2
              have p0 := Y11.out.cell 0
              have p1 := Y11.out.cell 1
              have p2 := Y11.out.cell 2
              have p3 := Y11.out.cell 3
              have v0 : W11.cell? ⟨w.heap.size, 0, none⟩ = some (.int .i64 0) := X11.out.cell 0
              have y0 := X11.out.frozen 0
              have v1 : W11.cell? ⟨w.heap.size, 1, none⟩ = some (.int .i64 0) := X11.out.cell 1
              have y1 := X11.out.frozen 1
              have v2 : W11.cell? ⟨w.heap.size, 2, none⟩ = some (.string ⟨#[]⟩) := X11.out.cell 2
              have y2 := X11.out.frozen 2
              have v3 : W11.cell? ⟨w.heap.size, 3, none⟩ = some (.slice none 0 0) := X11.out.cell 3
              have y3 := X11.out.frozen 3
              have Y9 := X11.out.put4 (.int .i64 ov) (.int .i64 0) (.string ⟨#[]⟩) (.slice (some ⟨w9.heap.size, 0, none⟩) 2 2)
              have K9 := Kept.put4 W11 w.heap.size (.int .i64 ov) (.int .i64 0) (.string ⟨#[]⟩) (.slice (some ⟨w9.heap.size, 0, none⟩) 2 2)
              go_wp2_with fail
              clear p0 p1 p2 p3 v0 v1 v2 v3 y0 y1 y2 y3
              generalize (((W11.setCell ⟨w.heap.size, 0, none⟩ (.int .i64 ov)).setCell ⟨w.heap.size, 1, none⟩ (.int .i64 0)).setCell ⟨w.heap.size, 2, none⟩ (.string ⟨#[]⟩)).setCell ⟨w.heap.size, 3, none⟩ (.slice (some ⟨w9.heap.size, 0, none⟩) 2 2) = W9 at *
              have s0 : W9.cell? ⟨w.heap.size, 0, none⟩ = some (.int .i64 ov) := Y9.cell 0
              have s1 : W9.cell? ⟨w.heap.size, 1, none⟩ = some (.int .i64 0) := Y9.cell 1
              have s2 : W9.cell? ⟨w.heap.size, 2, none⟩ = some (.string ⟨#[]⟩) := Y9.cell 2
              have s3 : W9.cell? ⟨w.heap.size, 3, none⟩ = some (.slice (some ⟨w9.heap.size, 0, none⟩) 2 2) := Y9.cell 3
              refine bodyPost_ret (v := .agg #[.int .i64 ov, .int .i64 0, .string ⟨#[]⟩, .slice (some ⟨w9.heap.size, 0, none⟩) 2 2]) (by simp [results, Tryz.results81, go_sem, s0, s1, s2, s3]) rfl ?_
              obtain ⟨d9, k9, r9⟩ := dex_mk HH.out D11.out K11g.out K9 RB.out
              exact ⟨_, _, _, _, _, _, _, _, rfl, d9, k9, r9⟩
            · have ek2 : ((k : Int) == 2) = false := by simp; omega
              go_wp2_with fail
              go_roundw
              case rel => exact ⟨i9, er9, ov, 0, ⟨#[]⟩, some ⟨w9.heap.size, 0, none⟩, 2, 2, D11.out, K11g.out, X11.out, Y11.out, S1.out hk2⟩
              case measure =>
                rw [LMd_eq D11.out, LMd_eq DD.out, if_pos rfl]
                by_cases h : er9 = 0
                · rw [if_pos h]
                  have := S3.out h D11.out.at_
                  omega
                · rw [if_neg h]
                  omega
end Go.Proofs.YtdgekckedchjbaaGreatDoor
