
/-
  The document's parser of expressions: plain, under, expr. (Printed by wip/tools/gend4.py.)
-/
import Derived.Test.YtdgekckedchjbaaGreatDoorD3
import Derived.Test.YtdgekckedchjbaaGreatDoorQD
import Derived.Test.YtdgekckedchjbaaGreatDoorQD
namespace Go.Proofs.YtdgekckedchjbaaGreatDoor
open Go.RowKit

/-- What a step that reads an expression has read: a tree, or it is wrong. -/
def DRes (base : Nat) (ts : List Tk) (p : PR) (i : Nat) (er : Int) (cs : List Value) (w : World) : Prop :=
  (er = 0 ∧ ∃ x, p = .ok x (ts.drop i) ∧ GC (fun z => base ≤ z) w 2513169434843 x.dep cs x.gx) ∨ (er ≠ 0 ∧ ∃ r e, p = .bad r e)
def DEx (w : World) (g c : Nat) (A : Option Addr) (ts : List Tk) (p : PR) (e : Ending) (w' : World) : Prop :=
  ∃ (op N : Int) (nm : ByteArray) (B : Option Addr) (l k i : Nat) (er : Int), e = .returned (.agg #[.int .i64 op, .int .i64 N, .string nm, .slice B l k]) ∧ DP w' g A c ts i er ∧ Kept (fun z => z = g) w w' ∧
    DRes w.heap.size ts p i er [.int .i64 op, .int .i64 N, .string nm, .slice B l k] w'
theorem DRes.kept {base base' : Nat} {ts : List Tk} {p : PR} {i : Nat} {er : Int} {cs : List Value} {w w' : World} {S : Nat → Prop} (h : DRes base ts p i er cs w) (hk : Kept S w w') (hs : ∀ z, z < w.heap.size → base ≤ z → ¬ S z) (hb : base' ≤ base) : DRes base' ts p i er cs w' := by
  rcases h with ⟨h1, x, h2, h3⟩ | h
  · exact .inl ⟨h1, x, h2, GC.kept hk hs (fun z _ hz => by omega) _ _ _ h3⟩
  · exact .inr h
theorem DRes.wrap {base : Nat} {ts : List Tk} {p q : PR} {i : Nat} {er : Int} {cs cs' : List Value} {w : World} (h : DRes base ts p i er cs w) (k : Ex → Ex) (hq : q = p.wrap k) (hc : ∀ x, GC (fun z => base ≤ z) w 2513169434843 x.dep cs x.gx → GC (fun z => base ≤ z) w 2513169434843 (k x).dep cs' (k x).gx) : DRes base ts q i er cs' w := by
  rcases h with ⟨h1, x, h2, h3⟩ | ⟨h1, r, e, h2⟩
  · exact .inl ⟨h1, k x, by rw [hq, h2]; rfl, hc x h3⟩
  · exact .inr ⟨h1, r, e, by rw [hq, h2]; rfl⟩
theorem dex_mk {w W W9 : World} {g c : Nat} {A : Option Addr} {ts : List Tk} {p : PR} {i0 i : Nat} {e0 er : Int} {cs : List Value} (h : DP w g A c ts i0 e0) (hd : DP W g A c ts i er) (hk : Kept (fun z => z = g) w W) (K9 : Kept (fun z => z = w.heap.size) W W9) (hr : DRes (w.heap.size + 1) ts p i er cs W) :
    DP W9 g A c ts i er ∧ Kept (fun z => z = g) w W9 ∧ DRes w.heap.size ts p i er cs W9 := by
  have hz := hk.size
  have hg := h.blk.lt
  have k9 : Kept (fun z => z = g) w W9 := hk.then_ K9 (fun z hz e => by omega)
  exact ⟨h.put k9 (fun _ _ e => e) hd.at_ (hd.blk.kept K9 (by omega)), k9, hr.kept K9 (fun z _ hb e => by omega) (by omega)⟩
theorem hasT_ne {x y : List UInt8} {r : List Tk} (hxy : x ≠ y) (h : hasT x r = true) : hasT y r = false := by
  cases r with
  | nil => rfl
  | cons t r =>
    simp only [hasT, Bool.and_eq_true, decide_eq_true_eq] at h
    simp only [hasT, h.2, decide_eq_false hxy, Bool.and_false]
theorem hasT_t {x : List UInt8} {t : Tk} {r : List Tk} (h : hasT x (t :: r) = true) : (t.kind ≠ 1 ∧ t.kind ≠ 2 ∧ t.kind ≠ 0) ∧ t.text = x := by
  simp only [hasT, Bool.and_eq_true, Bool.or_eq_true, decide_eq_true_eq] at h
  exact ⟨⟨by omega, by omega, by omega⟩, h.2⟩
section
variable {d : Nat} {t : Tk} {r : List Tk}
theorem open_of {x : List UInt8} (hx : x = [40] ∨ x = [45] ∨ x = [110, 111, 116]) (h : hasT x (t :: r) = true) : openT (t :: r) = true := by
  unfold openT
  rcases hx with rfl | rfl | rfl <;> simp [h]
theorem pl_neg (h : hasT [45] (t :: r) = true) : plainD (d + 1) (t :: r) = (plainD d r).wrap .neg := by
  obtain ⟨⟨h1, h2, _⟩, h3⟩ := hasT_t h
  exact plainD_neg (open_of (.inr (.inl rfl)) h) h2 h1 (by rw [h3]; decide) h3
theorem pl_non (h : hasT [110, 111, 116] (t :: r) = true) : plainD (d + 1) (t :: r) = (plainD d r).wrap .non := by
  obtain ⟨⟨h1, h2, _⟩, h3⟩ := hasT_t h
  exact plainD_non (open_of (.inr (.inr rfl)) h) h2 h1 (by rw [h3]; decide) (by rw [h3]; decide)
theorem pl_par (h : hasT [40] (t :: r) = true) : plainD (d + 1) (t :: r) = (joinL (plainD d) 5 r).thenMust [41] id := by
  obtain ⟨⟨h1, h2, _⟩, h3⟩ := hasT_t h
  exact plainD_par (open_of (.inl rfl) h) h2 h1 h3
theorem pl_num (h : t.kind = 2) : plainD (d + 1) (t :: r) = .ok (.num t.n) r := plainD_num (by unfold openT; simp [h]) h
theorem pl_nam (h : t.kind = 1) (hb : hasT [91] r = false) : plainD (d + 1) (t :: r) = .ok (.nam t.text) r := plainD_nam (by unfold openT; simp [h]) h hb
theorem pl_idx (h : t.kind = 1) (hb : hasT [91] r = true) : plainD (d + 1) (t :: r) = (joinL (plainD d) 5 r.tail).thenMust [93] (.idx t.text) := plainD_idx (by unfold openT; simp [h]) h hb
theorem pl_bad (h : openT (t :: r) = false) : plainD (d + 1) (t :: r) = .bad (t :: r) (wrongT (t :: r)) := by
  simp only [plainD]
  rw [if_pos h]
theorem pl_bad0 (h : openT (t :: r) = false) : ∃ r' e, plainD d (t :: r) = .bad r' e := by
  cases d with
  | zero =>
    simp only [plainD]
    rw [h, if_neg (by decide)]
    exact ⟨_, _, rfl⟩
  | succ d => exact ⟨_, _, pl_bad h⟩
end
/-- An operand that is bad makes all that joins it bad. -/
theorem joinL_bad {f : List Tk → PR} {r : List Tk} (h : ∃ r' e, f r = .bad r' e) : ∀ k, ∃ r' e, joinL f k r = .bad r' e
  | 0 => h
  | k + 1 => by
    obtain ⟨r', e, h2⟩ := joinL_bad h k
    exact ⟨r', e, by rw [joinL, h2]⟩
section
variable {base : Nat} {w : World}
theorem gc_num (n : Int) : GC (fun z => base ≤ z) w 2513169434843 (Ex.num n).dep [.int .i64 0, .int .i64 n, .string ⟨#[]⟩, .slice none 0 0] (Ex.num n).gx := ⟨none, 0, 0, rfl, ElsG.none_ _ _ _ _ _ _⟩
theorem gc_nam (s : List UInt8) : GC (fun z => base ≤ z) w 2513169434843 (Ex.nam s).dep [.int .i64 1, .int .i64 0, .string (str s), .slice none 0 0] (Ex.nam s).gx := ⟨none, 0, 0, rfl, ElsG.none_ _ _ _ _ _ _⟩
theorem gc_one {b : Nat} {t : TypeId} {c1 : List Value} {x : Ex} (hb : Blk w b t (List.toArray c1)) (hD : base ≤ b) (hl : c1.length = 4) (h : GC (fun z => base ≤ z) w 2513169434843 x.dep c1 x.gx) (k : Ex → Ex) (op : Int) (nm : ByteArray) (hk : (k x).gx = .mk op 0 nm [x.gx]) (hd : (k x).dep = x.dep + 1) :
    GC (fun z => base ≤ z) w 2513169434843 (k x).dep [.int .i64 op, .int .i64 0, .string nm, .slice (some ⟨b, 0, none⟩) 1 1] (k x).gx := by
  rw [hk, hd]
  exact ⟨_, _, _, rfl, els_one (by omega) hb hD hl h⟩
end

/-- What is asked of plain, under, expr and level, with d more within. -/
def RPlainOk (g c : Nat) (A : Option Addr) (ts : List Tk) (d : Nat) : Prop := ∀ (dp : Int) (i : Nat) (w : World), dp + d = 17 → DP w g A c ts i 0 → Calls Tryz.prog 119 #[.pointer (some ⟨g, 0, none⟩), .int .i64 dp] w (DEx w g c A ts (plainD d (ts.drop i)))
def RUnderOk (g c : Nat) (A : Option Addr) (ts : List Tk) (d : Nat) : Prop := ∀ (dp : Int) (i : Nat) (w : World), dp + d = 17 → DP w g A c ts i 0 → Calls Tryz.prog 141 #[.pointer (some ⟨g, 0, none⟩), .int .i64 dp] w (DEx w g c A ts (plainD d (ts.drop i)))
def RExprOk (g c : Nat) (A : Option Addr) (ts : List Tk) (d : Nat) : Prop := ∀ (dp : Int) (i : Nat) (w : World), dp + d = 17 → DP w g A c ts i 0 → Calls Tryz.prog 47 #[.pointer (some ⟨g, 0, none⟩), .int .i64 dp] w (DEx w g c A ts (joinL (plainD d) 5 (ts.drop i)))
def RLevelOk (g c : Nat) (A : Option Addr) (ts : List Tk) (d k : Nat) : Prop := ∀ (dp : Int) (i : Nat) (w : World), dp + d = 17 → DP w g A c ts i 0 → Calls Tryz.prog 81 #[.pointer (some ⟨g, 0, none⟩), .int .i64 (k : Int), .int .i64 dp] w (DEx w g c A ts (joinL (plainD d) (5 - k) (ts.drop i)))

set_option maxHeartbeats 4000000 in
set_option maxRecDepth 100000 in
theorem plain_er (g c : Nat) (A : Option Addr) (ts : List Tk) (dp : Int) (i : Nat) (er : Int) (w : World) (he : er ≠ 0) (h : DP w g A c ts i er) :
    Calls Tryz.prog 119 #[.pointer (some ⟨g, 0, none⟩), .int .i64 dp] w fun e w' => e = .returned (.agg #[.int .i64 0, .int .i64 0, .string ⟨#[]⟩, .slice none 0 0]) ∧ DP w' g A c ts i er ∧ Kept (fun z => z = g) w w' := by
  have HH := Lib.hid h
  have hgl := h.blk.lt
  have hlim := h.lim
  have hat := h.at_
  have x1 := Blk.new w 24 #[.int .i64 0, .int .i64 0, .string ⟨#[]⟩, .slice none 0 0]
  have f1 : Below w.heap.size w (w.alloc (.cells #[.int .i64 0, .int .i64 0, .string ⟨#[]⟩, .slice none 0 0] 24)) := (Below.refl _ w).al _
  have D1 := Lib.hid (h.below f1)
  have K1 := Lib.hid (Kept.of_below (S := fun z => z = g) f1)
  have X1 := Lib.hid x1
  clear h
  go_enter Tryz.func119, Tryz.ntmps119
  go_upto_region 1 with fail
  generalize w.alloc (.cells #[.int .i64 0, .int .i64 0, .string ⟨#[]⟩, .slice none 0 0] 24) = W1 at *
  clear x1 f1
  have c2 : W1.cell? ⟨g, 2, none⟩ = some (.int .i64 er) := D1.out.blk.cell 2
  have he' : ((er : Int) == 0) = false := by simp [he]
  have v0 : W1.cell? ⟨w.heap.size, 0, none⟩ = some (.int .i64 0) := X1.out.cell 0
  have y0 := X1.out.frozen 0
  have v1 : W1.cell? ⟨w.heap.size, 1, none⟩ = some (.int .i64 0) := X1.out.cell 1
  have y1 := X1.out.frozen 1
  have v2 : W1.cell? ⟨w.heap.size, 2, none⟩ = some (.string ⟨#[]⟩) := X1.out.cell 2
  have y2 := X1.out.frozen 2
  have v3 : W1.cell? ⟨w.heap.size, 3, none⟩ = some (.slice none 0 0) := X1.out.cell 3
  have y3 := X1.out.frozen 3
  have Y9 := X1.out.put4 (.int .i64 0) (.int .i64 0) (.string ⟨#[]⟩) (.slice none 0 0)
  have K9 := Kept.put4 W1 w.heap.size (.int .i64 0) (.int .i64 0) (.string ⟨#[]⟩) (.slice none 0 0)
  go_wp2_with fail
  clear v0 v1 v2 v3 y0 y1 y2 y3
  generalize (((W1.setCell ⟨w.heap.size, 0, none⟩ (.int .i64 0)).setCell ⟨w.heap.size, 1, none⟩ (.int .i64 0)).setCell ⟨w.heap.size, 2, none⟩ (.string ⟨#[]⟩)).setCell ⟨w.heap.size, 3, none⟩ (.slice none 0 0) = W9 at *
  have s0 : W9.cell? ⟨w.heap.size, 0, none⟩ = some (.int .i64 0) := Y9.cell 0
  have s1 : W9.cell? ⟨w.heap.size, 1, none⟩ = some (.int .i64 0) := Y9.cell 1
  have s2 : W9.cell? ⟨w.heap.size, 2, none⟩ = some (.string ⟨#[]⟩) := Y9.cell 2
  have s3 : W9.cell? ⟨w.heap.size, 3, none⟩ = some (.slice none 0 0) := Y9.cell 3
  refine bodyPost_ret (v := .agg #[.int .i64 0, .int .i64 0, .string ⟨#[]⟩, .slice none 0 0]) (by simp [results, Tryz.results119, go_sem, s0, s1, s2, s3]) rfl ?_
  obtain ⟨d9, k9, r9⟩ := dex_mk HH.out D1.out K1.out K9 (.inr ⟨he, _, _, rfl⟩ : DRes (w.heap.size + 1) ts (.bad [] 0) i er [.int .i64 0, .int .i64 0, .string ⟨#[]⟩, .slice none 0 0] W1)
  exact ⟨rfl, d9, k9⟩
set_option maxHeartbeats 4000000 in
set_option maxRecDepth 100000 in
theorem eat_er (g c : Nat) (A : Option Addr) (ts : List Tk) (s : ByteArray) (i : Nat) (er : Int) (w : World) (he : er ≠ 0) (h : DP w g A c ts i er) :
    Calls Tryz.prog 101 #[.pointer (some ⟨g, 0, none⟩), .string s] w fun e w' => e = .returned (.tuple #[]) ∧ w' = w := by
  have c2 : w.cell? ⟨g, 2, none⟩ = some (.int .i64 er) := h.blk.cell 2
  have he' : ((er : Int) == 0) = false := by simp [he]
  clear h
  go_enter Tryz.func101, Tryz.ntmps101
  go_wp2_with fail
  refine bodyPost_ret (v := .tuple #[]) (by simp [results, Tryz.results101, go_sem]) rfl ⟨rfl, rfl⟩

set_option maxHeartbeats 4000000 in
set_option maxRecDepth 100000 in
theorem under_step (g c : Nat) (A : Option Addr) (ts : List Tk) (d : Nat) (hd : d ≤ 16) (HP : d ≠ 0 → RPlainOk g c A ts d) : RUnderOk g c A ts d := by
  intro dp i w hdp h
  obtain ⟨t, ht⟩ := h.one
  have HT := Lib.hid (drop_tok ht)
  have HPP := Lib.hid HP
  clear HP ht
  have HH := Lib.hid h
  have hgl := h.blk.lt
  have hlim := h.lim
  have hat := h.at_
  have x1 := Blk.new w 24 #[.int .i64 0, .int .i64 0, .string ⟨#[]⟩, .slice none 0 0]
  have f1 : Below w.heap.size w (w.alloc (.cells #[.int .i64 0, .int .i64 0, .string ⟨#[]⟩, .slice none 0 0] 24)) := (Below.refl _ w).al _
  have D1 := Lib.hid (h.below f1)
  have K1 := Lib.hid (Kept.of_below (S := fun z => z = g) f1)
  have X1 := Lib.hid x1
  clear h
  go_enter Tryz.func141, Tryz.ntmps141
  go_upto_region 1 with fail
  generalize w.alloc (.cells #[.int .i64 0, .int .i64 0, .string ⟨#[]⟩, .slice none 0 0] 24) = W1 at *
  clear x1 f1
  have BG := Lib.hid (rbegins_any g c A ts i 0 W1 D1.out)
  have c2 : W1.cell? ⟨g, 2, none⟩ = some (.int .i64 0) := D1.out.blk.cell 2
  obtain ⟨b, hb⟩ : ∃ b, openT (ts.drop i) = b := ⟨_, rfl⟩
  rw [hb] at BG
  have HB := Lib.hid hb
  clear hb
  go_wp2_with fail
  refine BG.out.mono ?_
  rintro e w2 ⟨rfl, b2⟩
  have D2 := Lib.hid (D1.out.below b2)
  have K2 := Lib.hid (K1.out.below_ b2)
  have X2 := Lib.hid (X1.out.below b2 X1.out.lt)
  clear b2
  clear c2
  have c2 : w2.cell? ⟨g, 2, none⟩ = some (.int .i64 0) := D2.out.blk.cell 2
  cases b
  · have FL := Lib.hid (fail_any g c A ts i w2 D2.out)
    have HBAD : Hid (∃ r e, plainD d (ts.drop i) = .bad r e) := by
      rw [Hid, HT.out]
      exact pl_bad0 (by rw [← HT.out]; exact HB.out)
    go_wp2_with fail
    refine FL.out.mono ?_
    rintro e w3 ⟨er, her, rfl, d3, k3⟩
    have D3 := Lib.hid d3
    have K3 := Lib.hid (K2.out.then_ k3 (fun _ _ e => e))
    have X3 := Lib.hid (X2.out.kept k3 (by omega))
    clear d3 k3 c2 FL
    have c2 : w3.cell? ⟨g, 2, none⟩ = some (.int .i64 er) := D3.out.blk.cell 2
    have he' : ((er : Int) == 0) = false := by simp [her]
    have PE := Lib.hid (plain_er g c A ts dp i er w3 her D3.out)
    go_wp2_with fail
    refine PE.out.mono ?_
    rintro e w4 ⟨rfl, d4, k4⟩
    have D4 := Lib.hid d4
    have K4 := Lib.hid (K3.out.then_ k4 (fun _ _ e => e))
    have X4 := Lib.hid (X3.out.kept k4 (by omega))
    have R4 : Hid (DRes (w.heap.size + 1) ts (plainD d (ts.drop i)) i er [.int .i64 0, .int .i64 0, .string ⟨#[]⟩, .slice none 0 0] w4) := .inr ⟨her, HBAD.out⟩
    clear d4 k4 c2 PE
    have v0 : w4.cell? ⟨w.heap.size, 0, none⟩ = some (.int .i64 0) := X4.out.cell 0
    have y0 := X4.out.frozen 0
    have v1 : w4.cell? ⟨w.heap.size, 1, none⟩ = some (.int .i64 0) := X4.out.cell 1
    have y1 := X4.out.frozen 1
    have v2 : w4.cell? ⟨w.heap.size, 2, none⟩ = some (.string ⟨#[]⟩) := X4.out.cell 2
    have y2 := X4.out.frozen 2
    have v3 : w4.cell? ⟨w.heap.size, 3, none⟩ = some (.slice none 0 0) := X4.out.cell 3
    have y3 := X4.out.frozen 3
    have Y9 := X4.out.put4 (.int .i64 0) (.int .i64 0) (.string ⟨#[]⟩) (.slice none 0 0)
    have K9 := Kept.put4 w4 w.heap.size (.int .i64 0) (.int .i64 0) (.string ⟨#[]⟩) (.slice none 0 0)
    go_wp2_with fail
    clear v0 v1 v2 v3 y0 y1 y2 y3
    generalize (((w4.setCell ⟨w.heap.size, 0, none⟩ (.int .i64 0)).setCell ⟨w.heap.size, 1, none⟩ (.int .i64 0)).setCell ⟨w.heap.size, 2, none⟩ (.string ⟨#[]⟩)).setCell ⟨w.heap.size, 3, none⟩ (.slice none 0 0) = W9 at *
    have s0 : W9.cell? ⟨w.heap.size, 0, none⟩ = some (.int .i64 0) := Y9.cell 0
    have s1 : W9.cell? ⟨w.heap.size, 1, none⟩ = some (.int .i64 0) := Y9.cell 1
    have s2 : W9.cell? ⟨w.heap.size, 2, none⟩ = some (.string ⟨#[]⟩) := Y9.cell 2
    have s3 : W9.cell? ⟨w.heap.size, 3, none⟩ = some (.slice none 0 0) := Y9.cell 3
    refine bodyPost_ret (v := .agg #[.int .i64 0, .int .i64 0, .string ⟨#[]⟩, .slice none 0 0]) (by simp [results, Tryz.results141, go_sem, s0, s1, s2, s3]) rfl ?_
    obtain ⟨d9, k9, r9⟩ := dex_mk HH.out D4.out K4.out K9 R4.out
    exact ⟨_, _, _, _, _, _, _, _, rfl, d9, k9, r9⟩
  · by_cases hz : d = 0
    · subst hz
      have h17 : (16 : Int) < dp := by omega
      have HBAD : Hid (∃ r e, plainD 0 (ts.drop i) = .bad r e) := by
        rw [Hid, HT.out]
        exact ⟨_, _, plainD_deep (by rw [← HT.out]; exact HB.out)⟩
      have u2 := D2.out.blk.frozen 2
      have K5 := (Kept.refl (fun z => z = g) w2).setCell (p := ⟨g, 2, none⟩) (fun _ => rfl) (.int .i64 25)
      have B5 : Blk (w2.setCell ⟨g, 2, none⟩ (.int .i64 25)) g 105 #[.slice A ts.length c, .int .i64 i, .int .i64 25] := by
        have := D2.out.blk.set_ 2 (.int .i64 25)
        simpa using this
      have D5 := Lib.hid (D2.out.put K5 (fun _ _ e => e) hat B5)
      have K6 := Lib.hid (K2.out.then_ K5 (fun _ _ e => e))
      have X5 := Lib.hid (X2.out.kept K5 (by omega))
      clear K5 B5
      have PE := Lib.hid (plain_er g c A ts dp i 25 _ (by decide) D5.out)
      go_wp2_with fail
      generalize w2.setCell ⟨g, 2, none⟩ (.int .i64 25) = W5 at *
      refine PE.out.mono ?_
      rintro e w4 ⟨rfl, d4, k4⟩
      have D4 := Lib.hid d4
      have K4 := Lib.hid (K6.out.then_ k4 (fun _ _ e => e))
      have X4 := Lib.hid (X5.out.kept k4 (by omega))
      have R4 : Hid (DRes (w.heap.size + 1) ts (plainD 0 (ts.drop i)) i 25 [.int .i64 0, .int .i64 0, .string ⟨#[]⟩, .slice none 0 0] w4) := .inr ⟨by decide, HBAD.out⟩
      clear d4 k4 c2 PE
      have v0 : w4.cell? ⟨w.heap.size, 0, none⟩ = some (.int .i64 0) := X4.out.cell 0
      have y0 := X4.out.frozen 0
      have v1 : w4.cell? ⟨w.heap.size, 1, none⟩ = some (.int .i64 0) := X4.out.cell 1
      have y1 := X4.out.frozen 1
      have v2 : w4.cell? ⟨w.heap.size, 2, none⟩ = some (.string ⟨#[]⟩) := X4.out.cell 2
      have y2 := X4.out.frozen 2
      have v3 : w4.cell? ⟨w.heap.size, 3, none⟩ = some (.slice none 0 0) := X4.out.cell 3
      have y3 := X4.out.frozen 3
      have Y9 := X4.out.put4 (.int .i64 0) (.int .i64 0) (.string ⟨#[]⟩) (.slice none 0 0)
      have K9 := Kept.put4 w4 w.heap.size (.int .i64 0) (.int .i64 0) (.string ⟨#[]⟩) (.slice none 0 0)
      go_wp2_with fail
      clear v0 v1 v2 v3 y0 y1 y2 y3
      generalize (((w4.setCell ⟨w.heap.size, 0, none⟩ (.int .i64 0)).setCell ⟨w.heap.size, 1, none⟩ (.int .i64 0)).setCell ⟨w.heap.size, 2, none⟩ (.string ⟨#[]⟩)).setCell ⟨w.heap.size, 3, none⟩ (.slice none 0 0) = W9 at *
      have s0 : W9.cell? ⟨w.heap.size, 0, none⟩ = some (.int .i64 0) := Y9.cell 0
      have s1 : W9.cell? ⟨w.heap.size, 1, none⟩ = some (.int .i64 0) := Y9.cell 1
      have s2 : W9.cell? ⟨w.heap.size, 2, none⟩ = some (.string ⟨#[]⟩) := Y9.cell 2
      have s3 : W9.cell? ⟨w.heap.size, 3, none⟩ = some (.slice none 0 0) := Y9.cell 3
      refine bodyPost_ret (v := .agg #[.int .i64 0, .int .i64 0, .string ⟨#[]⟩, .slice none 0 0]) (by simp [results, Tryz.results141, go_sem, s0, s1, s2, s3]) rfl ?_
      obtain ⟨d9, k9, r9⟩ := dex_mk HH.out D4.out K4.out K9 R4.out
      exact ⟨_, _, _, _, _, _, _, _, rfl, d9, k9, r9⟩
    · have h17 : ¬ (16 : Int) < dp := by omega
      have PL := Lib.hid (HPP.out hz dp i w2 hdp D2.out)
      go_wp2_with fail
      refine PL.out.mono ?_
      rintro e w4 ⟨op4, N4, nm4, B4, l4, k4, i4, er4, rfl, d4, kk4, r4⟩
      have D4 := Lib.hid d4
      have K4 := Lib.hid (K2.out.then_ kk4 (fun _ _ e => e))
      have X4 := Lib.hid (X2.out.kept kk4 (by omega))
      have hw2 := X2.out.lt
      have R4 := Lib.hid (r4.kept (base' := w.heap.size + 1) (Kept.refl (fun _ => False) w4) (fun _ _ _ e => e) (by omega))
      clear d4 kk4 r4 c2 PL
      have v0 : w4.cell? ⟨w.heap.size, 0, none⟩ = some (.int .i64 0) := X4.out.cell 0
      have y0 := X4.out.frozen 0
      have v1 : w4.cell? ⟨w.heap.size, 1, none⟩ = some (.int .i64 0) := X4.out.cell 1
      have y1 := X4.out.frozen 1
      have v2 : w4.cell? ⟨w.heap.size, 2, none⟩ = some (.string ⟨#[]⟩) := X4.out.cell 2
      have y2 := X4.out.frozen 2
      have v3 : w4.cell? ⟨w.heap.size, 3, none⟩ = some (.slice none 0 0) := X4.out.cell 3
      have y3 := X4.out.frozen 3
      have Y9 := X4.out.put4 (.int .i64 op4) (.int .i64 N4) (.string nm4) (.slice B4 l4 k4)
      have K9 := Kept.put4 w4 w.heap.size (.int .i64 op4) (.int .i64 N4) (.string nm4) (.slice B4 l4 k4)
      go_wp2_with fail
      clear v0 v1 v2 v3 y0 y1 y2 y3
      generalize (((w4.setCell ⟨w.heap.size, 0, none⟩ (.int .i64 op4)).setCell ⟨w.heap.size, 1, none⟩ (.int .i64 N4)).setCell ⟨w.heap.size, 2, none⟩ (.string nm4)).setCell ⟨w.heap.size, 3, none⟩ (.slice B4 l4 k4) = W9 at *
      have s0 : W9.cell? ⟨w.heap.size, 0, none⟩ = some (.int .i64 op4) := Y9.cell 0
      have s1 : W9.cell? ⟨w.heap.size, 1, none⟩ = some (.int .i64 N4) := Y9.cell 1
      have s2 : W9.cell? ⟨w.heap.size, 2, none⟩ = some (.string nm4) := Y9.cell 2
      have s3 : W9.cell? ⟨w.heap.size, 3, none⟩ = some (.slice B4 l4 k4) := Y9.cell 3
      refine bodyPost_ret (v := .agg #[.int .i64 op4, .int .i64 N4, .string nm4, .slice B4 l4 k4]) (by simp [results, Tryz.results141, go_sem, s0, s1, s2, s3]) rfl ?_
      obtain ⟨d9, k9, r9⟩ := dex_mk HH.out D4.out K4.out K9 R4.out
      exact ⟨_, _, _, _, _, _, _, _, rfl, d9, k9, r9⟩

set_option maxHeartbeats 4000000 in
set_option maxRecDepth 100000 in
theorem dexpr_step (g c : Nat) (A : Option Addr) (ts : List Tk) (d : Nat) (hd : d ≤ 16) (HP : d ≠ 0 → RLevelOk g c A ts d 0) : RExprOk g c A ts d := by
  intro dp i w hdp h
  obtain ⟨t, ht⟩ := h.one
  have HT := Lib.hid (drop_tok ht)
  have HPP := Lib.hid HP
  clear HP ht
  have HH := Lib.hid h
  have hgl := h.blk.lt
  have hlim := h.lim
  have hat := h.at_
  have x1 := Blk.new w 24 #[.int .i64 0, .int .i64 0, .string ⟨#[]⟩, .slice none 0 0]
  have f1 : Below w.heap.size w (w.alloc (.cells #[.int .i64 0, .int .i64 0, .string ⟨#[]⟩, .slice none 0 0] 24)) := (Below.refl _ w).al _
  have D1 := Lib.hid (h.below f1)
  have K1 := Lib.hid (Kept.of_below (S := fun z => z = g) f1)
  have X1 := Lib.hid x1
  clear h
  go_enter Tryz.func47, Tryz.ntmps47
  go_upto_region 1 with fail
  generalize w.alloc (.cells #[.int .i64 0, .int .i64 0, .string ⟨#[]⟩, .slice none 0 0] 24) = W1 at *
  clear x1 f1
  have BG := Lib.hid (rbegins_any g c A ts i 0 W1 D1.out)
  have c2 : W1.cell? ⟨g, 2, none⟩ = some (.int .i64 0) := D1.out.blk.cell 2
  obtain ⟨b, hb⟩ : ∃ b, openT (ts.drop i) = b := ⟨_, rfl⟩
  rw [hb] at BG
  have HB := Lib.hid hb
  clear hb
  go_wp2_with fail
  refine BG.out.mono ?_
  rintro e w2 ⟨rfl, b2⟩
  have D2 := Lib.hid (D1.out.below b2)
  have K2 := Lib.hid (K1.out.below_ b2)
  have X2 := Lib.hid (X1.out.below b2 X1.out.lt)
  clear b2
  clear c2
  cases b
  · have FL := Lib.hid (fail_any g c A ts i w2 D2.out)
    have HBAD : Hid (∃ r e, joinL (plainD d) 5 (ts.drop i) = .bad r e) := joinL_bad (by
      rw [HT.out]
      exact pl_bad0 (by rw [← HT.out]; exact HB.out)) 5
    go_wp2_with fail
    refine FL.out.mono ?_
    rintro e w3 ⟨er, her, rfl, d3, k3⟩
    have D3 := Lib.hid d3
    have K3 := Lib.hid (K2.out.then_ k3 (fun _ _ e => e))
    have X3 := Lib.hid (X2.out.kept k3 (by omega))
    have R4 : Hid (DRes (w.heap.size + 1) ts (joinL (plainD d) 5 (ts.drop i)) i er [.int .i64 0, .int .i64 0, .string ⟨#[]⟩, .slice none 0 0] w3) := .inr ⟨her, HBAD.out⟩
    clear d3 k3 FL
    have v0 : w3.cell? ⟨w.heap.size, 0, none⟩ = some (.int .i64 0) := X3.out.cell 0
    have y0 := X3.out.frozen 0
    have v1 : w3.cell? ⟨w.heap.size, 1, none⟩ = some (.int .i64 0) := X3.out.cell 1
    have y1 := X3.out.frozen 1
    have v2 : w3.cell? ⟨w.heap.size, 2, none⟩ = some (.string ⟨#[]⟩) := X3.out.cell 2
    have y2 := X3.out.frozen 2
    have v3 : w3.cell? ⟨w.heap.size, 3, none⟩ = some (.slice none 0 0) := X3.out.cell 3
    have y3 := X3.out.frozen 3
    have Y9 := X3.out.put4 (.int .i64 0) (.int .i64 0) (.string ⟨#[]⟩) (.slice none 0 0)
    have K9 := Kept.put4 w3 w.heap.size (.int .i64 0) (.int .i64 0) (.string ⟨#[]⟩) (.slice none 0 0)
    go_wp2_with fail
    clear v0 v1 v2 v3 y0 y1 y2 y3
    generalize (((w3.setCell ⟨w.heap.size, 0, none⟩ (.int .i64 0)).setCell ⟨w.heap.size, 1, none⟩ (.int .i64 0)).setCell ⟨w.heap.size, 2, none⟩ (.string ⟨#[]⟩)).setCell ⟨w.heap.size, 3, none⟩ (.slice none 0 0) = W9 at *
    have s0 : W9.cell? ⟨w.heap.size, 0, none⟩ = some (.int .i64 0) := Y9.cell 0
    have s1 : W9.cell? ⟨w.heap.size, 1, none⟩ = some (.int .i64 0) := Y9.cell 1
    have s2 : W9.cell? ⟨w.heap.size, 2, none⟩ = some (.string ⟨#[]⟩) := Y9.cell 2
    have s3 : W9.cell? ⟨w.heap.size, 3, none⟩ = some (.slice none 0 0) := Y9.cell 3
    refine bodyPost_ret (v := .agg #[.int .i64 0, .int .i64 0, .string ⟨#[]⟩, .slice none 0 0]) (by simp [results, Tryz.results47, go_sem, s0, s1, s2, s3]) rfl ?_
    obtain ⟨d9, k9, r9⟩ := dex_mk HH.out D3.out K3.out K9 R4.out
    exact ⟨_, _, _, _, _, _, _, _, rfl, d9, k9, r9⟩
  · by_cases hz : d = 0
    · subst hz
      have h17 : (16 : Int) < dp := by omega
      have HBAD : Hid (∃ r e, joinL (plainD 0) 5 (ts.drop i) = .bad r e) := joinL_bad (by
        rw [HT.out]
        exact ⟨_, _, plainD_deep (by rw [← HT.out]; exact HB.out)⟩) 5
      have u2 := D2.out.blk.frozen 2
      have c2 : w2.cell? ⟨g, 2, none⟩ = some (.int .i64 0) := D2.out.blk.cell 2
      have K5 := (Kept.refl (fun z => z = g) w2).setCell (p := ⟨g, 2, none⟩) (fun _ => rfl) (.int .i64 25)
      have B5 : Blk (w2.setCell ⟨g, 2, none⟩ (.int .i64 25)) g 105 #[.slice A ts.length c, .int .i64 i, .int .i64 25] := by
        have := D2.out.blk.set_ 2 (.int .i64 25)
        simpa using this
      have D5 := Lib.hid (D2.out.put K5 (fun _ _ e => e) hat B5)
      have K6 := Lib.hid (K2.out.then_ K5 (fun _ _ e => e))
      have X5 := Lib.hid (X2.out.kept K5 (by omega))
      clear K5 B5
      go_upto_region 8 with fail
      generalize w2.setCell ⟨g, 2, none⟩ (.int .i64 25) = W5 at *
      have R4 : Hid (DRes (w.heap.size + 1) ts (joinL (plainD 0) 5 (ts.drop i)) i 25 [.int .i64 0, .int .i64 0, .string ⟨#[]⟩, .slice none 0 0] W5) := .inr ⟨by decide, HBAD.out⟩
      have v0 : W5.cell? ⟨w.heap.size, 0, none⟩ = some (.int .i64 0) := X5.out.cell 0
      have y0 := X5.out.frozen 0
      have v1 : W5.cell? ⟨w.heap.size, 1, none⟩ = some (.int .i64 0) := X5.out.cell 1
      have y1 := X5.out.frozen 1
      have v2 : W5.cell? ⟨w.heap.size, 2, none⟩ = some (.string ⟨#[]⟩) := X5.out.cell 2
      have y2 := X5.out.frozen 2
      have v3 : W5.cell? ⟨w.heap.size, 3, none⟩ = some (.slice none 0 0) := X5.out.cell 3
      have y3 := X5.out.frozen 3
      have Y9 := X5.out.put4 (.int .i64 0) (.int .i64 0) (.string ⟨#[]⟩) (.slice none 0 0)
      have K9 := Kept.put4 W5 w.heap.size (.int .i64 0) (.int .i64 0) (.string ⟨#[]⟩) (.slice none 0 0)
      go_wp2_with fail
      clear v0 v1 v2 v3 y0 y1 y2 y3
      generalize (((W5.setCell ⟨w.heap.size, 0, none⟩ (.int .i64 0)).setCell ⟨w.heap.size, 1, none⟩ (.int .i64 0)).setCell ⟨w.heap.size, 2, none⟩ (.string ⟨#[]⟩)).setCell ⟨w.heap.size, 3, none⟩ (.slice none 0 0) = W9 at *
      have s0 : W9.cell? ⟨w.heap.size, 0, none⟩ = some (.int .i64 0) := Y9.cell 0
      have s1 : W9.cell? ⟨w.heap.size, 1, none⟩ = some (.int .i64 0) := Y9.cell 1
      have s2 : W9.cell? ⟨w.heap.size, 2, none⟩ = some (.string ⟨#[]⟩) := Y9.cell 2
      have s3 : W9.cell? ⟨w.heap.size, 3, none⟩ = some (.slice none 0 0) := Y9.cell 3
      refine bodyPost_ret (v := .agg #[.int .i64 0, .int .i64 0, .string ⟨#[]⟩, .slice none 0 0]) (by simp [results, Tryz.results47, go_sem, s0, s1, s2, s3]) rfl ?_
      obtain ⟨d9, k9, r9⟩ := dex_mk HH.out D5.out K6.out K9 R4.out
      exact ⟨_, _, _, _, _, _, _, _, rfl, d9, k9, r9⟩
    · have h17 : ¬ (16 : Int) < dp := by omega
      have PL := Lib.hid (HPP.out hz dp i w2 hdp D2.out)
      go_wp2_with fail
      refine PL.out.mono ?_
      rintro e w4 ⟨op4, N4, nm4, B4, l4, k4, i4, er4, rfl, d4, kk4, r4⟩
      have D4 := Lib.hid d4
      have K4 := Lib.hid (K2.out.then_ kk4 (fun _ _ e => e))
      have X4 := Lib.hid (X2.out.kept kk4 (by omega))
      have hw2 := X2.out.lt
      have R4 := Lib.hid (r4.kept (base' := w.heap.size + 1) (Kept.refl (fun _ => False) w4) (fun _ _ _ e => e) (by omega))
      clear d4 kk4 r4 PL
      have v0 : w4.cell? ⟨w.heap.size, 0, none⟩ = some (.int .i64 0) := X4.out.cell 0
      have y0 := X4.out.frozen 0
      have v1 : w4.cell? ⟨w.heap.size, 1, none⟩ = some (.int .i64 0) := X4.out.cell 1
      have y1 := X4.out.frozen 1
      have v2 : w4.cell? ⟨w.heap.size, 2, none⟩ = some (.string ⟨#[]⟩) := X4.out.cell 2
      have y2 := X4.out.frozen 2
      have v3 : w4.cell? ⟨w.heap.size, 3, none⟩ = some (.slice none 0 0) := X4.out.cell 3
      have y3 := X4.out.frozen 3
      have Y9 := X4.out.put4 (.int .i64 op4) (.int .i64 N4) (.string nm4) (.slice B4 l4 k4)
      have K9 := Kept.put4 w4 w.heap.size (.int .i64 op4) (.int .i64 N4) (.string nm4) (.slice B4 l4 k4)
      go_wp2_with fail
      clear v0 v1 v2 v3 y0 y1 y2 y3
      generalize (((w4.setCell ⟨w.heap.size, 0, none⟩ (.int .i64 op4)).setCell ⟨w.heap.size, 1, none⟩ (.int .i64 N4)).setCell ⟨w.heap.size, 2, none⟩ (.string nm4)).setCell ⟨w.heap.size, 3, none⟩ (.slice B4 l4 k4) = W9 at *
      have s0 : W9.cell? ⟨w.heap.size, 0, none⟩ = some (.int .i64 op4) := Y9.cell 0
      have s1 : W9.cell? ⟨w.heap.size, 1, none⟩ = some (.int .i64 N4) := Y9.cell 1
      have s2 : W9.cell? ⟨w.heap.size, 2, none⟩ = some (.string nm4) := Y9.cell 2
      have s3 : W9.cell? ⟨w.heap.size, 3, none⟩ = some (.slice B4 l4 k4) := Y9.cell 3
      refine bodyPost_ret (v := .agg #[.int .i64 op4, .int .i64 N4, .string nm4, .slice B4 l4 k4]) (by simp [results, Tryz.results47, go_sem, s0, s1, s2, s3]) rfl ?_
      obtain ⟨d9, k9, r9⟩ := dex_mk HH.out D4.out K4.out K9 R4.out
      exact ⟨_, _, _, _, _, _, _, _, rfl, d9, k9, r9⟩
end Go.Proofs.YtdgekckedchjbaaGreatDoor
