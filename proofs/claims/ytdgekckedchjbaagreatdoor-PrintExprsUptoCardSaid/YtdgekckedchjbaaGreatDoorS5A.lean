
/-
  The parser's plain: where none begins, or it is too deep. (Printed by wip/tools/gens5.py.)
-/
import Derived.Test.YtdgekckedchjbaaGreatDoorQD
import Derived.Deep.RegionHeld3
import Derived.Deep.DeepCutAuto
namespace Go.Proofs.YtdgekckedchjbaaGreatDoor
open Go.RowKit

theorem open_kind {t : Tk} {r : List Tk} (h : openT (t :: r) = true) : t.kind ≠ 0 := fun e => by simp [openT, hasT, e] at h
theorem open_text {t : Tk} {r : List Tk} (h : openT (t :: r) = true) (h2 : t.kind ≠ 2) (h1 : t.kind ≠ 1) : t.text = [40] ∨ t.text = [45] ∨ t.text = [110, 111, 116] := by
  simp only [openT, hasT, Bool.or_eq_true, Bool.and_eq_true, decide_eq_true_eq] at h
  rcases h with ((h | h) | h) | h
  · rcases h with h | h
    · exact absurd h h2
    · exact absurd h h1
  · exact .inl h.2
  · exact .inr (.inl h.2)
  · exact .inr (.inr h.2)
theorem TE.kept_lt {D S : Nat → Prop} {w w' : World} {e : Ex} {cs : List Value} (h : TE D w e cs) (hk : Kept S w w') (hs : ∀ k, k < w.heap.size → D k → ¬ S k) : TE D w' e cs :=
  (TE.kept (D := fun k => D k ∧ k < w.heap.size) hk (fun k hd => hs k hd.2 hd.1) e cs (h.mono (fun _ hk hd => ⟨hd, hk⟩))).mono (fun _ _ hd => hd.1)
theorem ExAt.kept_lt {base g c : Nat} {A : Option Addr} {m : Nat → Nat} {ts : List Tk} {dp : Int} {cs : List Value} {w w' : World} {p : PR} {S : Nat → Prop} (h : ExAt base g c A m ts dp cs w p) (hk : Kept S w w') (hg : ¬ S g) (hs : ∀ k, k < w.heap.size → base ≤ k → ¬ S k) : ExAt base g c A m ts dp cs w' p := by
  obtain ⟨i, er, hi, hb, hp⟩ := h
  refine ⟨i, er, hi, hb.kept hk hg, ?_⟩
  cases p with
  | ok x r => exact ⟨hp.1, hp.2.1, hp.2.2.kept_lt hk hs⟩
  | bad r e => exact hp

set_option maxHeartbeats 4000000 in
set_option maxRecDepth 100000 in
theorem plain_shut (g c : Nat) (A : Option Addr) (m : Nat → Nat) (ts : List Tk) (dp : Int) (d : Nat) (deep : Int) (i : Nat) (w : World) (hd : deep + (d : Int) = 16) (h0 : 0 ≤ deep) (h : Par w g A c m ts i dp 0) (t : Tk) (ht : ts[i]? = some t) (hb : openB t 0 = false) : Calls Tryz.prog 112 #[.pointer (some ⟨g, 0, none⟩), .int .i64 deep] w (ExTo w g c A m ts dp (plainD d (ts.drop i))) := by
  have hdh := And.intro hd h0
  clear hdh
  have f0 : Below w.heap.size w (w.alloc (.cells #[.int .i64 0, .int .i64 0, .string ⟨#[]⟩, .slice none 0 0] 40)) := (Below.refl _ w).al _
  have x0 := Blk.new w 40 #[.int .i64 0, .int .i64 0, .string ⟨#[]⟩, .slice none 0 0]
  have H0 := h.below f0
  have OP := Lib.hid (opens_any g c A m ts i dp 0 _ H0 t ht)
  have WR := Lib.hid (fun w' (h' : Par w' g A c m ts i dp 0) => wrong_any g c A m ts i dp 0 w' h' t ht)
  have hgl := h.blk.lt
  have HT := Lib.hid (drop_tok ht)
  obtain ⟨p, hp⟩ : ∃ p, plainD d (ts.drop i) = p := ⟨_, rfl⟩
  rw [hp]
  rw [HT.out] at hp
  have HP := Lib.hid hp
  have HB : Hid (openB t 0 = openT (t :: ts.drop (i + 1))) := openB_T
  rw [hb] at OP HB
  have hi := h.at_
  have lim := h.st.lim
  have HH := Lib.hid h
  have HH0 := Lib.hid H0
  have F0 := Lib.hid f0
  have X0 := Lib.hid x0
  have HTT := Lib.hid ht
  have z0 := f0.size
  clear h H0 f0 x0 hp hb ht
  go_enter Tryz.func112, Tryz.ntmps112
  go_wp2_with fail
  generalize w.alloc (.cells #[.int .i64 0, .int .i64 0, .string ⟨#[]⟩, .slice none 0 0] 40) = W0 at *
  refine OP.out.mono ?_
  rintro e w1 ⟨rfl, q, rfl⟩
  clear OP
  have HR : Hid (p = .bad (t :: ts.drop (i + 1)) (wrongT (t :: ts.drop (i + 1)))) := HP.out.symm.trans (plainD_shut HB.out.symm)
  go_wp2_with fail
  refine (WR.out _ (HH0.out.drewN q)).mono ?_
  rintro e w2 ⟨rfl, p2, k2⟩
  have x2 := (X0.out.drewN q).kept k2 (by omega)
  have P2 := Lib.hid p2
  have K2 := Lib.hid k2
  have s0 : w2.cell? ⟨w.heap.size, 0, none⟩ = some (.int .i64 0) := x2.cell 0
  have t0 := x2.frozen 0
  have s1 : w2.cell? ⟨w.heap.size, 1, none⟩ = some (.int .i64 0) := x2.cell 1
  have t1 := x2.frozen 1
  have s2 : w2.cell? ⟨w.heap.size, 2, none⟩ = some (.string ⟨#[]⟩) := x2.cell 2
  have t2 := x2.frozen 2
  have s3 : w2.cell? ⟨w.heap.size, 3, none⟩ = some (.slice none 0 0) := x2.cell 3
  have t3 := x2.frozen 3
  clear p2 k2 WR HH0
  go_wp2_with fail
  clear s0 s1 s2 s3
  have X9 := (x2).put4 (.int .i64 0) (.int .i64 0) (.string ⟨#[]⟩) (.slice none 0 0)
  have K9 := Kept.put4 w2 w.heap.size (.int .i64 0) (.int .i64 0) (.string ⟨#[]⟩) (.slice none 0 0)
  generalize (((w2.setCell ⟨w.heap.size, 0, none⟩ (.int .i64 0)).setCell ⟨w.heap.size, 1, none⟩ (.int .i64 0)).setCell ⟨w.heap.size, 2, none⟩ (.string ⟨#[]⟩)).setCell ⟨w.heap.size, 3, none⟩ (.slice none 0 0) = W9 at *
  have s0 : W9.cell? ⟨w.heap.size, 0, none⟩ = some (.int .i64 0) := X9.cell 0
  have s1 : W9.cell? ⟨w.heap.size, 1, none⟩ = some (.int .i64 0) := X9.cell 1
  have s2 : W9.cell? ⟨w.heap.size, 2, none⟩ = some (.string ⟨#[]⟩) := X9.cell 2
  have s3 : W9.cell? ⟨w.heap.size, 3, none⟩ = some (.slice none 0 0) := X9.cell 3
  have KK : Kept (fun z => z = g) w W9 := (((Kept.of_below (S := fun z => z = g) F0.out).then_ ((Kept.refl (fun z => z = g) W0).drewN q) (fun _ _ e => e)).then_ K2.out (fun _ _ e => e)).then_ K9 (fun z hz e => by omega)
  refine bodyPost_ret (v := .agg #[.int .i64 0, .int .i64 0, .string ⟨#[]⟩, .slice none 0 0]) (by simp [results, Tryz.results112, go_sem, s0, s1, s2, s3]) rfl ⟨_, _, _, _, _, _, rfl, KK, ?_⟩
  rw [HR.out]
  exact ⟨i, wrongT (t :: ts.drop (i + 1)), hi, P2.out.blk.kept K9 (by omega), HT.out.symm, rfl, wrongT_ne _⟩

set_option maxHeartbeats 4000000 in
set_option maxRecDepth 100000 in
theorem plain_deep0 (g c : Nat) (A : Option Addr) (m : Nat → Nat) (ts : List Tk) (dp : Int) (deep : Int) (i : Nat) (w : World) (hd : deep + ((0 : Nat) : Int) = 16) (h0 : 0 ≤ deep) (h : Par w g A c m ts i dp 0) (t : Tk) (ht : ts[i]? = some t) (hb : openB t 0 = true) : Calls Tryz.prog 112 #[.pointer (some ⟨g, 0, none⟩), .int .i64 deep] w (ExTo w g c A m ts dp (plainD 0 (ts.drop i))) := by
  have hdh := And.intro hd h0
  clear hdh
  have f0 : Below w.heap.size w (w.alloc (.cells #[.int .i64 0, .int .i64 0, .string ⟨#[]⟩, .slice none 0 0] 40)) := (Below.refl _ w).al _
  have x0 := Blk.new w 40 #[.int .i64 0, .int .i64 0, .string ⟨#[]⟩, .slice none 0 0]
  have H0 := h.below f0
  have OP := Lib.hid (opens_any g c A m ts i dp 0 _ H0 t ht)
  have WR := Lib.hid (fun w' (h' : Par w' g A c m ts i dp 0) => wrong_any g c A m ts i dp 0 w' h' t ht)
  have hgl := h.blk.lt
  have HT := Lib.hid (drop_tok ht)
  obtain ⟨p, hp⟩ : ∃ p, plainD 0 (ts.drop i) = p := ⟨_, rfl⟩
  rw [hp]
  rw [HT.out] at hp
  have HP := Lib.hid hp
  have HB : Hid (openB t 0 = openT (t :: ts.drop (i + 1))) := openB_T
  rw [hb] at OP HB
  have hi := h.at_
  have lim := h.st.lim
  have HH := Lib.hid h
  have HH0 := Lib.hid H0
  have F0 := Lib.hid f0
  have X0 := Lib.hid x0
  have HTT := Lib.hid ht
  have z0 := f0.size
  clear h H0 f0 x0 hp hb ht
  go_enter Tryz.func112, Tryz.ntmps112
  go_wp2_with fail
  generalize w.alloc (.cells #[.int .i64 0, .int .i64 0, .string ⟨#[]⟩, .slice none 0 0] 40) = W0 at *
  refine OP.out.mono ?_
  rintro e w1 ⟨rfl, q, rfl⟩
  clear OP
  have HR : Hid (p = .bad (t :: ts.drop (i + 1)) 25) := HP.out.symm.trans (plainD_deep HB.out.symm)
  have hdd : (16 : Int) ≤ deep := by omega
  have B := (HH0.out.drewN q).blk
  have c8 : (W0.drewN q).frozen? ⟨g, 8, none⟩ = false := B.frozen 8
  have c9 : (W0.drewN q).cell? ⟨g, 8, none⟩ = some (.int .i64 0) := B.cell 8
  go_upto_region 6 with fail
  have K1 := ((Kept.refl (fun z => z = g) W0).drewN q).setCell (p := ⟨g, 8, none⟩) (fun _ => rfl) (.int .i64 25)
  have B1 : Blk ((W0.drewN q).setCell ⟨g, 8, none⟩ (.int .i64 25)) g 119 (parCells A ts.length c m i dp 25) := B.set_ 8 _
  generalize (W0.drewN q).setCell ⟨g, 8, none⟩ (.int .i64 25) = w2 at *
  have x2 := X0.out.kept K1 (by omega)
  clear c8 c9
  have s0 : w2.cell? ⟨w.heap.size, 0, none⟩ = some (.int .i64 0) := x2.cell 0
  have t0 := x2.frozen 0
  have s1 : w2.cell? ⟨w.heap.size, 1, none⟩ = some (.int .i64 0) := x2.cell 1
  have t1 := x2.frozen 1
  have s2 : w2.cell? ⟨w.heap.size, 2, none⟩ = some (.string ⟨#[]⟩) := x2.cell 2
  have t2 := x2.frozen 2
  have s3 : w2.cell? ⟨w.heap.size, 3, none⟩ = some (.slice none 0 0) := x2.cell 3
  have t3 := x2.frozen 3
  clear WR HH0
  go_wp2_with fail
  clear s0 s1 s2 s3
  have X9 := (x2).put4 (.int .i64 0) (.int .i64 0) (.string ⟨#[]⟩) (.slice none 0 0)
  have K9 := Kept.put4 w2 w.heap.size (.int .i64 0) (.int .i64 0) (.string ⟨#[]⟩) (.slice none 0 0)
  generalize (((w2.setCell ⟨w.heap.size, 0, none⟩ (.int .i64 0)).setCell ⟨w.heap.size, 1, none⟩ (.int .i64 0)).setCell ⟨w.heap.size, 2, none⟩ (.string ⟨#[]⟩)).setCell ⟨w.heap.size, 3, none⟩ (.slice none 0 0) = W9 at *
  have s0 : W9.cell? ⟨w.heap.size, 0, none⟩ = some (.int .i64 0) := X9.cell 0
  have s1 : W9.cell? ⟨w.heap.size, 1, none⟩ = some (.int .i64 0) := X9.cell 1
  have s2 : W9.cell? ⟨w.heap.size, 2, none⟩ = some (.string ⟨#[]⟩) := X9.cell 2
  have s3 : W9.cell? ⟨w.heap.size, 3, none⟩ = some (.slice none 0 0) := X9.cell 3
  have KK : Kept (fun z => z = g) w W9 := ((Kept.of_below (S := fun z => z = g) F0.out).then_ K1 (fun _ _ e => e)).then_ K9 (fun z hz e => by omega)
  refine bodyPost_ret (v := .agg #[.int .i64 0, .int .i64 0, .string ⟨#[]⟩, .slice none 0 0]) (by simp [results, Tryz.results112, go_sem, s0, s1, s2, s3]) rfl ⟨_, _, _, _, _, _, rfl, KK, ?_⟩
  rw [HR.out]
  exact ⟨i, 25, hi, B1.kept K9 (by omega), HT.out.symm, rfl, by decide⟩
end Go.Proofs.YtdgekckedchjbaaGreatDoor
