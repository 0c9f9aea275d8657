
/-
  The parser's plain: where none begins, or it is too deep. (Printed by wip/tools/gens5.py.) The parser's plain: a number. (Printed by wip/tools/gens5.py.) The parser's plain: a name. (Printed by wip/tools/gens5.py.) The parser's plain: a name with an index. (Printed by wip/tools/gens5.py.) The parser's plain: parentheses. (Printed by wip/tools/gens5.py.) The parser's plain: a sign. (Printed by wip/tools/gens5.py.) The parser's plain: a not. (Printed by wip/tools/gens5.py.) The parser's plain. (Printed by wip/tools/gens5.py.)
-/
import Derived.Test.YtdgekckedchjbaaGreatDoorQD
import Derived.Deep.RegionHeld3
import Derived.Deep.DeepCutAuto
namespace Go.Proofs.YtdgekckedchjbaaGreatDoor
open Go.RowKit

theorem open_kind {t : Tk} {r : List Tk} (h : openT (t :: r) = true) : t.kind ≠ 0 := fun e => by simp [openT, hasT, e] at h
theorem open_text {t : Tk} {r : List Tk} (h : openT (t :: r) = true) (h2 : t.kind ≠ 2) (h1 : t.kind ≠ 1) : t.text = [40] ∨ t.text = [45] ∨ t.text = [110, 111, 116] := by
  simp only [openT, hasT, Bool.or_eq_true, Bool.and_eq_true, decide_eq_true_eq] at h
  rcases h with ((h | h) | h) | h
  · rcases h with h | h
    · exact absurd h h2
    · exact absurd h h1
  · exact .inl h.2
  · exact .inr (.inl h.2)
  · exact .inr (.inr h.2)
theorem TE.kept_lt {D S : Nat → Prop} {w w' : World} {e : Ex} {cs : List Value} (h : TE D w e cs) (hk : Kept S w w') (hs : ∀ k, k < w.heap.size → D k → ¬ S k) : TE D w' e cs :=
  (TE.kept (D := fun k => D k ∧ k < w.heap.size) hk (fun k hd => hs k hd.2 hd.1) e cs (h.mono (fun _ hk hd => ⟨hd, hk⟩))).mono (fun _ _ hd => hd.1)
theorem ExAt.kept_lt {base g c : Nat} {A : Option Addr} {m : Nat → Nat} {ts : List Tk} {dp : Int} {cs : List Value} {w w' : World} {p : PR} {S : Nat → Prop} (h : ExAt base g c A m ts dp cs w p) (hk : Kept S w w') (hg : ¬ S g) (hs : ∀ k, k < w.heap.size → base ≤ k → ¬ S k) : ExAt base g c A m ts dp cs w' p := by
  obtain ⟨i, er, hi, hb, hp⟩ := h
  refine ⟨i, er, hi, hb.kept hk hg, ?_⟩
  cases p with
  | ok x r => exact ⟨hp.1, hp.2.1, hp.2.2.kept_lt hk hs⟩
  | bad r e => exact hp

set_option maxHeartbeats 4000000 in
set_option maxRecDepth 100000 in
theorem plain_shut (g c : Nat) (A : Option Addr) (m : Nat → Nat) (ts : List Tk) (dp : Int) (d : Nat) (deep : Int) (i : Nat) (w : World) (hd : deep + (d : Int) = 16) (h0 : 0 ≤ deep) (h : Par w g A c m ts i dp 0) (t : Tk) (ht : ts[i]? = some t) (hb : openB t 0 = false) : Calls Tryz.prog 112 #[.pointer (some ⟨g, 0, none⟩), .int .i64 deep] w (ExTo w g c A m ts dp (plainD d (ts.drop i))) := by
  have hdh := And.intro hd h0
  clear hdh
  have f0 : Below w.heap.size w (w.alloc (.cells #[.int .i64 0, .int .i64 0, .string ⟨#[]⟩, .slice none 0 0] 40)) := (Below.refl _ w).al _
  have x0 := Blk.new w 40 #[.int .i64 0, .int .i64 0, .string ⟨#[]⟩, .slice none 0 0]
  have H0 := h.below f0
  have OP := Lib.hid (opens_any g c A m ts i dp 0 _ H0 t ht)
  have WR := Lib.hid (fun w' (h' : Par w' g A c m ts i dp 0) => wrong_any g c A m ts i dp 0 w' h' t ht)
  have hgl := h.blk.lt
  have HT := Lib.hid (drop_tok ht)
  obtain ⟨p, hp⟩ : ∃ p, plainD d (ts.drop i) = p := ⟨_, rfl⟩
  rw [hp]
  rw [HT.out] at hp
  have HP := Lib.hid hp
  have HB : Hid (openB t 0 = openT (t :: ts.drop (i + 1))) := openB_T
  rw [hb] at OP HB
  have hi := h.at_
  have lim := h.st.lim
  have HH := Lib.hid h
  have HH0 := Lib.hid H0
  have F0 := Lib.hid f0
  have X0 := Lib.hid x0
  have HTT := Lib.hid ht
  have z0 := f0.size
  clear h H0 f0 x0 hp hb ht
  go_enter Tryz.func112, Tryz.ntmps112
  go_wp2_with fail
  generalize w.alloc (.cells #[.int .i64 0, .int .i64 0, .string ⟨#[]⟩, .slice none 0 0] 40) = W0 at *
  refine OP.out.mono ?_
  rintro e w1 ⟨rfl, q, rfl⟩
  clear OP
  have HR : Hid (p = .bad (t :: ts.drop (i + 1)) (wrongT (t :: ts.drop (i + 1)))) := HP.out.symm.trans (plainD_shut HB.out.symm)
  go_wp2_with fail
  refine (WR.out _ (HH0.out.drewN q)).mono ?_
  rintro e w2 ⟨rfl, p2, k2⟩
  have x2 := (X0.out.drewN q).kept k2 (by omega)
  have P2 := Lib.hid p2
  have K2 := Lib.hid k2
  have s0 : w2.cell? ⟨w.heap.size, 0, none⟩ = some (.int .i64 0) := x2.cell 0
  have t0 := x2.frozen 0
  have s1 : w2.cell? ⟨w.heap.size, 1, none⟩ = some (.int .i64 0) := x2.cell 1
  have t1 := x2.frozen 1
  have s2 : w2.cell? ⟨w.heap.size, 2, none⟩ = some (.string ⟨#[]⟩) := x2.cell 2
  have t2 := x2.frozen 2
  have s3 : w2.cell? ⟨w.heap.size, 3, none⟩ = some (.slice none 0 0) := x2.cell 3
  have t3 := x2.frozen 3
  clear p2 k2 WR HH0
  go_wp2_with fail
  clear s0 s1 s2 s3
  have X9 := (x2).put4 (.int .i64 0) (.int .i64 0) (.string ⟨#[]⟩) (.slice none 0 0)
  have K9 := Kept.put4 w2 w.heap.size (.int .i64 0) (.int .i64 0) (.string ⟨#[]⟩) (.slice none 0 0)
  generalize (((w2.setCell ⟨w.heap.size, 0, none⟩ (.int .i64 0)).setCell ⟨w.heap.size, 1, none⟩ (.int .i64 0)).setCell ⟨w.heap.size, 2, none⟩ (.string ⟨#[]⟩)).setCell ⟨w.heap.size, 3, none⟩ (.slice none 0 0) = W9 at *
  have s0 : W9.cell? ⟨w.heap.size, 0, none⟩ = some (.int .i64 0) := X9.cell 0
  have s1 : W9.cell? ⟨w.heap.size, 1, none⟩ = some (.int .i64 0) := X9.cell 1
  have s2 : W9.cell? ⟨w.heap.size, 2, none⟩ = some (.string ⟨#[]⟩) := X9.cell 2
  have s3 : W9.cell? ⟨w.heap.size, 3, none⟩ = some (.slice none 0 0) := X9.cell 3
  have KK : Kept (fun z => z = g) w W9 := (((Kept.of_below (S := fun z => z = g) F0.out).then_ ((Kept.refl (fun z => z = g) W0).drewN q) (fun _ _ e => e)).then_ K2.out (fun _ _ e => e)).then_ K9 (fun z hz e => by omega)
  refine bodyPost_ret (v := .agg #[.int .i64 0, .int .i64 0, .string ⟨#[]⟩, .slice none 0 0]) (by simp [results, Tryz.results112, go_sem, s0, s1, s2, s3]) rfl ⟨_, _, _, _, _, _, rfl, KK, ?_⟩
  rw [HR.out]
  exact ⟨i, wrongT (t :: ts.drop (i + 1)), hi, P2.out.blk.kept K9 (by omega), HT.out.symm, rfl, wrongT_ne _⟩

set_option maxHeartbeats 4000000 in
set_option maxRecDepth 100000 in
theorem plain_deep0 (g c : Nat) (A : Option Addr) (m : Nat → Nat) (ts : List Tk) (dp : Int) (deep : Int) (i : Nat) (w : World) (hd : deep + ((0 : Nat) : Int) = 16) (h0 : 0 ≤ deep) (h : Par w g A c m ts i dp 0) (t : Tk) (ht : ts[i]? = some t) (hb : openB t 0 = true) : Calls Tryz.prog 112 #[.pointer (some ⟨g, 0, none⟩), .int .i64 deep] w (ExTo w g c A m ts dp (plainD 0 (ts.drop i))) := by
  have hdh := And.intro hd h0
  clear hdh
  have f0 : Below w.heap.size w (w.alloc (.cells #[.int .i64 0, .int .i64 0, .string ⟨#[]⟩, .slice none 0 0] 40)) := (Below.refl _ w).al _
  have x0 := Blk.new w 40 #[.int .i64 0, .int .i64 0, .string ⟨#[]⟩, .slice none 0 0]
  have H0 := h.below f0
  have OP := Lib.hid (opens_any g c A m ts i dp 0 _ H0 t ht)
  have WR := Lib.hid (fun w' (h' : Par w' g A c m ts i dp 0) => wrong_any g c A m ts i dp 0 w' h' t ht)
  have hgl := h.blk.lt
  have HT := Lib.hid (drop_tok ht)
  obtain ⟨p, hp⟩ : ∃ p, plainD 0 (ts.drop i) = p := ⟨_, rfl⟩
  rw [hp]
  rw [HT.out] at hp
  have HP := Lib.hid hp
  have HB : Hid (openB t 0 = openT (t :: ts.drop (i + 1))) := openB_T
  rw [hb] at OP HB
  have hi := h.at_
  have lim := h.st.lim
  have HH := Lib.hid h
  have HH0 := Lib.hid H0
  have F0 := Lib.hid f0
  have X0 := Lib.hid x0
  have HTT := Lib.hid ht
  have z0 := f0.size
  clear h H0 f0 x0 hp hb ht
  go_enter Tryz.func112, Tryz.ntmps112
  go_wp2_with fail
  generalize w.alloc (.cells #[.int .i64 0, .int .i64 0, .string ⟨#[]⟩, .slice none 0 0] 40) = W0 at *
  refine OP.out.mono ?_
  rintro e w1 ⟨rfl, q, rfl⟩
  clear OP
  have HR : Hid (p = .bad (t :: ts.drop (i + 1)) 25) := HP.out.symm.trans (plainD_deep HB.out.symm)
  have hdd : (16 : Int) ≤ deep := by omega
  have B := (HH0.out.drewN q).blk
  have c8 : (W0.drewN q).frozen? ⟨g, 8, none⟩ = false := B.frozen 8
  have c9 : (W0.drewN q).cell? ⟨g, 8, none⟩ = some (.int .i64 0) := B.cell 8
  go_upto_region 6 with fail
  have K1 := ((Kept.refl (fun z => z = g) W0).drewN q).setCell (p := ⟨g, 8, none⟩) (fun _ => rfl) (.int .i64 25)
  have B1 : Blk ((W0.drewN q).setCell ⟨g, 8, none⟩ (.int .i64 25)) g 119 (parCells A ts.length c m i dp 25) := B.set_ 8 _
  generalize (W0.drewN q).setCell ⟨g, 8, none⟩ (.int .i64 25) = w2 at *
  have x2 := X0.out.kept K1 (by omega)
  clear c8 c9
  have s0 : w2.cell? ⟨w.heap.size, 0, none⟩ = some (.int .i64 0) := x2.cell 0
  have t0 := x2.frozen 0
  have s1 : w2.cell? ⟨w.heap.size, 1, none⟩ = some (.int .i64 0) := x2.cell 1
  have t1 := x2.frozen 1
  have s2 : w2.cell? ⟨w.heap.size, 2, none⟩ = some (.string ⟨#[]⟩) := x2.cell 2
  have t2 := x2.frozen 2
  have s3 : w2.cell? ⟨w.heap.size, 3, none⟩ = some (.slice none 0 0) := x2.cell 3
  have t3 := x2.frozen 3
  clear WR HH0
  go_wp2_with fail
  clear s0 s1 s2 s3
  have X9 := (x2).put4 (.int .i64 0) (.int .i64 0) (.string ⟨#[]⟩) (.slice none 0 0)
  have K9 := Kept.put4 w2 w.heap.size (.int .i64 0) (.int .i64 0) (.string ⟨#[]⟩) (.slice none 0 0)
  generalize (((w2.setCell ⟨w.heap.size, 0, none⟩ (.int .i64 0)).setCell ⟨w.heap.size, 1, none⟩ (.int .i64 0)).setCell ⟨w.heap.size, 2, none⟩ (.string ⟨#[]⟩)).setCell ⟨w.heap.size, 3, none⟩ (.slice none 0 0) = W9 at *
  have s0 : W9.cell? ⟨w.heap.size, 0, none⟩ = some (.int .i64 0) := X9.cell 0
  have s1 : W9.cell? ⟨w.heap.size, 1, none⟩ = some (.int .i64 0) := X9.cell 1
  have s2 : W9.cell? ⟨w.heap.size, 2, none⟩ = some (.string ⟨#[]⟩) := X9.cell 2
  have s3 : W9.cell? ⟨w.heap.size, 3, none⟩ = some (.slice none 0 0) := X9.cell 3
  have KK : Kept (fun z => z = g) w W9 := ((Kept.of_below (S := fun z => z = g) F0.out).then_ K1 (fun _ _ e => e)).then_ K9 (fun z hz e => by omega)
  refine bodyPost_ret (v := .agg #[.int .i64 0, .int .i64 0, .string ⟨#[]⟩, .slice none 0 0]) (by simp [results, Tryz.results112, go_sem, s0, s1, s2, s3]) rfl ⟨_, _, _, _, _, _, rfl, KK, ?_⟩
  rw [HR.out]
  exact ⟨i, 25, hi, B1.kept K9 (by omega), HT.out.symm, rfl, by decide⟩
end Go.Proofs.YtdgekckedchjbaaGreatDoor
namespace Go.Proofs.YtdgekckedchjbaaGreatDoor
open Go.RowKit

set_option maxHeartbeats 4000000 in
set_option maxRecDepth 100000 in
theorem plain_num (g c : Nat) (A : Option Addr) (m : Nat → Nat) (ts : List Tk) (dp : Int) (d : Nat) (PC : PlainC g c A m ts dp d) (JC : JoinC g c A m ts dp d 5) (deep : Int) (i : Nat) (w : World) (hd : deep + ((d + 1 : Nat) : Int) = 16) (h0 : 0 ≤ deep) (h : Par w g A c m ts i dp 0) (t : Tk) (ht : ts[i]? = some t) (hb : openB t 0 = true) (hk2 : t.kind = 2) : Calls Tryz.prog 112 #[.pointer (some ⟨g, 0, none⟩), .int .i64 deep] w (ExTo w g c A m ts dp (plainD (d + 1) (ts.drop i))) := by
  have hdh := And.intro hd h0
  clear hdh
  have PC := Lib.hid PC
  have JC := Lib.hid JC
  have H_hk2 := Lib.hid hk2
  clear hk2
  have f0 : Below w.heap.size w (w.alloc (.cells #[.int .i64 0, .int .i64 0, .string ⟨#[]⟩, .slice none 0 0] 40)) := (Below.refl _ w).al _
  have x0 := Blk.new w 40 #[.int .i64 0, .int .i64 0, .string ⟨#[]⟩, .slice none 0 0]
  have H0 := h.below f0
  have OP := Lib.hid (opens_any g c A m ts i dp 0 _ H0 t ht)
  have WR := Lib.hid (fun w' (h' : Par w' g A c m ts i dp 0) => wrong_any g c A m ts i dp 0 w' h' t ht)
  have hgl := h.blk.lt
  have HT := Lib.hid (drop_tok ht)
  obtain ⟨p, hp⟩ : ∃ p, plainD (d + 1) (ts.drop i) = p := ⟨_, rfl⟩
  rw [hp]
  rw [HT.out] at hp
  have HP := Lib.hid hp
  have HB : Hid (openB t 0 = openT (t :: ts.drop (i + 1))) := openB_T
  rw [hb] at OP HB
  have hi := h.at_
  have lim := h.st.lim
  have HH := Lib.hid h
  have HH0 := Lib.hid H0
  have F0 := Lib.hid f0
  have X0 := Lib.hid x0
  have HTT := Lib.hid ht
  have z0 := f0.size
  clear h H0 f0 x0 hp hb ht
  go_enter Tryz.func112, Tryz.ntmps112
  go_wp2_with fail
  generalize w.alloc (.cells #[.int .i64 0, .int .i64 0, .string ⟨#[]⟩, .slice none 0 0] 40) = W0 at *
  refine OP.out.mono ?_
  rintro e w1 ⟨rfl, q, rfl⟩
  clear OP
  have hdd : deep < 16 := by omega
  go_upto_region 7 with fail
  have P1 := Lib.hid (HH0.out.drewN q)
  have X1 := Lib.hid (X0.out.drewN q)
  have K1 := Lib.hid ((Kept.of_below (S := fun z => z = g) F0.out).then_ ((Kept.refl (fun z => z = g) W0).drewN q) (fun _ _ e => e))
  have zz : w.heap.size < (W0.drewN q).heap.size := X0.out.lt
  generalize W0.drewN q = W1 at *
  have hkn : t.kind ≠ 0 := open_kind HB.out.symm
  have TK : Hid (∀ W, Par W g A c m ts i dp 0 → Calls Tryz.prog 87 #[.pointer (some ⟨g, 0, none⟩), .int .i64 t.kind] W (ParTo W g c A m ts dp (tkVal t) (i + 1) 0)) := fun W hW => by
    have h1 := take_any g c A m ts i dp 0 t.kind W hW t HTT.out hkn
    have h2 : nextB t 0 t.kind = true := by simp [nextB]
    rw [if_pos h2, if_pos h2, if_pos h2] at h1
    exact h1
  have hi1 : i + 1 < ts.length := HH.out.st.more HTT.out (.inl hkn)
  have HI1 := Lib.hid hi1
  clear WR HH0 X0 F0 z0
  obtain ⟨b, o, hA, hb, hbg, q0, -, -, -, -⟩ := P1.out.st.tok HTT.out
  have hAh := Lib.hid hA
  obtain ⟨n, hn⟩ : ∃ n, ts.length = n := ⟨_, rfl⟩
  have HN := Lib.hid hn
  have B := P1.out.blk
  unfold parCells at B
  rw [hA, hn] at B
  rw [hn] at hi hi1 lim
  have g1 : (0 : Int) ≤ (i : Int) := by omega
  have g2 : (i : Int) < (n : Int) := by omega
  have hgz := B.lt
  have c0 : W1.cell? ⟨g, 0, none⟩ = some (.slice (some ⟨b, o, none⟩) n c) := B.cell 0
  have c1 : W1.cell? ⟨g, 1, none⟩ = some (.int .i64 i) := B.cell 1
  have BA := B.alloc (.cells #[.int .i64 0, .string ⟨#[]⟩, .int .i64 0, .int .i64 0, .int .i64 0] 122)
  have a0 : (W1.alloc (.cells #[.int .i64 0, .string ⟨#[]⟩, .int .i64 0, .int .i64 0, .int .i64 0] 122)).cell? ⟨g, 0, none⟩ = some (.slice (some ⟨b, o, none⟩) n c) := BA.cell 0
  have a1 : (W1.alloc (.cells #[.int .i64 0, .string ⟨#[]⟩, .int .i64 0, .int .i64 0, .int .i64 0] 122)).cell? ⟨g, 1, none⟩ = some (.int .i64 i) := BA.cell 1
  have a2 : (W1.alloc (.cells #[.int .i64 0, .string ⟨#[]⟩, .int .i64 0, .int .i64 0, .int .i64 0] 122)).cell? ⟨b, o + i * 5, none⟩ = some (.int .i64 t.kind) := (World.cell?_alloc_lt _ _ _ hb).trans q0
  have fa : Below W1.heap.size W1 (W1.alloc (.cells #[.int .i64 0, .string ⟨#[]⟩, .int .i64 0, .int .i64 0, .int .i64 0] 122)).drew := ((Below.refl _ W1).al _).drew
  have PA := Lib.hid (P1.out.below fa)
  have PD := Lib.hid (P1.out.below (Below.refl _ W1).drew)
  have XA := Lib.hid (Blk.new W1 122 #[.int .i64 0, .string ⟨#[]⟩, .int .i64 0, .int .i64 0, .int .i64 0]).drew
  have FA := Lib.hid fa
  clear B BA hA hn fa
  go_cut [5] (fun v wc => ∃ g5, v = .pointer (some ⟨g5, 0, none⟩) ∧ Hid (Blk wc g5 122 #[.int .i64 t.kind, .string (str t.text), .int .i64 t.n, .int .i64 t.line, .int .i64 t.col]) ∧ Hid (Par wc g A c m ts (i + 1) dp 0) ∧ Hid (Kept (fun z => z = g) W1 wc) ∧ Hid (W1.heap.size ≤ g5))
  case first =>
    go_region_with (first
      | (go_at_call 87; (with_reducible refine (TK.out _ PD.out).mono ?_); rintro e w4 ⟨rfl, p4, k4⟩; unfold tkVal)
      | (go_at_call 87; (with_reducible refine (TK.out _ PA.out).mono ?_); rintro e w4 ⟨rfl, p4, k4⟩; unfold tkVal; have n4 := XA.out.kept k4 (by omega); have y0 : w4.cell? ⟨W1.heap.size, 0, none⟩ = some (.int .i64 0) := n4.cell 0; have y1 : w4.cell? ⟨W1.heap.size, 1, none⟩ = some (.string ⟨#[]⟩) := n4.cell 1; have y2 : w4.cell? ⟨W1.heap.size, 2, none⟩ = some (.int .i64 0) := n4.cell 2; have y3 : w4.cell? ⟨W1.heap.size, 3, none⟩ = some (.int .i64 0) := n4.cell 3; have y4 : w4.cell? ⟨W1.heap.size, 4, none⟩ = some (.int .i64 0) := n4.cell 4; have j0 := n4.frozen 0; have j1 := n4.frozen 1; have j2 := n4.frozen 2; have j3 := n4.frozen 3; have j4 := n4.frozen 4))
    all_goals
      go_wp2_with fail
      go_meet
      case rel => first
        | (with_reducible refine ⟨w4.heap.size, rfl, ?_⟩); exact ⟨Blk.new _ _ _, p4.below ((Below.refl _ w4).al _), ((((Kept.refl (fun z => z = g) W1).drew).then_ k4 (fun _ _ e => e)).alloc _), k4.size⟩
        | (with_reducible refine ⟨W1.heap.size, rfl, ?_⟩); exact ⟨n4.put5 _ _ _ _ _, P1.out.put HI1.out (p4.blk.kept (Kept.put5 w4 W1.heap.size _ _ _ _ _) (by omega)) (((Kept.of_below (S := fun z => z = g) FA.out).then_ k4 (fun _ _ e => e)).then_ (Kept.put5 w4 W1.heap.size _ _ _ _ _) (fun z hz e => by omega)), ((Kept.of_below (S := fun z => z = g) FA.out).then_ k4 (fun _ _ e => e)).then_ (Kept.put5 w4 W1.heap.size _ _ _ _ _) (fun z hz e => by omega), Nat.le_refl _⟩
  case rest =>
    obtain ⟨g5, rfl, B5, P2, K2, hg5⟩ := hcut
    obtain ⟨W2, rfl⟩ : ∃ x, x = wc := ⟨_, rfl⟩
    have X2 := Lib.hid (X1.out.kept K2.out (by omega))
    have zz2 : W1.heap.size ≤ W2.heap.size := K2.out.size
    have hg5' : W1.heap.size ≤ g5 := hg5.out
    have hg52 : g5 < W2.heap.size := B5.out.lt
    have KW := Lib.hid (K1.out.then_ K2.out (fun _ _ e => e))
    clear TK PA PD XA FA a0 a1 a2 c0 c1 q0 K1 K2 X1 P1 hb hbg hg5
    have u0 : W2.cell? ⟨g5, 0, none⟩ = some (.int .i64 t.kind) := B5.out.cell 0
    have u1 : W2.cell? ⟨g5, 1, none⟩ = some (.string (str t.text)) := B5.out.cell 1
    have u2 : W2.cell? ⟨g5, 2, none⟩ = some (.int .i64 t.n) := B5.out.cell 2
    have hk2 := H_hk2.out
    have HR : Hid (p = .ok (.num t.n) (ts.drop (i + 1))) := HP.out.symm.trans (plainD_num HB.out.symm hk2)
    rw [hk2] at u0
    have x2 := X2.out
    have s0 : W2.cell? ⟨w.heap.size, 0, none⟩ = some (.int .i64 0) := x2.cell 0
    have t0 := x2.frozen 0
    have s1 : W2.cell? ⟨w.heap.size, 1, none⟩ = some (.int .i64 0) := x2.cell 1
    have t1 := x2.frozen 1
    have s2 : W2.cell? ⟨w.heap.size, 2, none⟩ = some (.string ⟨#[]⟩) := x2.cell 2
    have t2 := x2.frozen 2
    have s3 : W2.cell? ⟨w.heap.size, 3, none⟩ = some (.slice none 0 0) := x2.cell 3
    have t3 := x2.frozen 3
    go_wp2_with fail
    clear s0 s1 s2 s3
    have X9 := (x2).put4 (.int .i64 0) (.int .i64 t.n) (.string ⟨#[]⟩) (.slice none 0 0)
    have K9 := Kept.put4 W2 w.heap.size (.int .i64 0) (.int .i64 t.n) (.string ⟨#[]⟩) (.slice none 0 0)
    generalize (((W2.setCell ⟨w.heap.size, 0, none⟩ (.int .i64 0)).setCell ⟨w.heap.size, 1, none⟩ (.int .i64 t.n)).setCell ⟨w.heap.size, 2, none⟩ (.string ⟨#[]⟩)).setCell ⟨w.heap.size, 3, none⟩ (.slice none 0 0) = W9 at *
    have s0 : W9.cell? ⟨w.heap.size, 0, none⟩ = some (.int .i64 0) := X9.cell 0
    have s1 : W9.cell? ⟨w.heap.size, 1, none⟩ = some (.int .i64 t.n) := X9.cell 1
    have s2 : W9.cell? ⟨w.heap.size, 2, none⟩ = some (.string ⟨#[]⟩) := X9.cell 2
    have s3 : W9.cell? ⟨w.heap.size, 3, none⟩ = some (.slice none 0 0) := X9.cell 3
    have KK : Kept (fun z => z = g) w W9 := KW.out.then_ K9 (fun z hz e => by omega)
    refine bodyPost_ret (v := .agg #[.int .i64 0, .int .i64 t.n, .string ⟨#[]⟩, .slice none 0 0]) (by simp [results, Tryz.results112, go_sem, s0, s1, s2, s3]) rfl ⟨_, _, _, _, _, _, rfl, KK, ?_⟩
    rw [HR.out]
    exact ⟨i + 1, 0, P2.out.at_, P2.out.blk.kept K9 (by omega), rfl, rfl, rfl⟩
end Go.Proofs.YtdgekckedchjbaaGreatDoor
namespace Go.Proofs.YtdgekckedchjbaaGreatDoor
open Go.RowKit

set_option maxHeartbeats 4000000 in
set_option maxRecDepth 100000 in
theorem plain_nam (g c : Nat) (A : Option Addr) (m : Nat → Nat) (ts : List Tk) (dp : Int) (d : Nat) (PC : PlainC g c A m ts dp d) (JC : JoinC g c A m ts dp d 5) (deep : Int) (i : Nat) (w : World) (hd : deep + ((d + 1 : Nat) : Int) = 16) (h0 : 0 ≤ deep) (h : Par w g A c m ts i dp 0) (t : Tk) (ht : ts[i]? = some t) (hb : openB t 0 = true) (hk1 : t.kind = 1) (hb2 : Hid (hasT [91] (ts.drop (i + 1)) = false)) : Calls Tryz.prog 112 #[.pointer (some ⟨g, 0, none⟩), .int .i64 deep] w (ExTo w g c A m ts dp (plainD (d + 1) (ts.drop i))) := by
  have hdh := And.intro hd h0
  clear hdh
  have PC := Lib.hid PC
  have JC := Lib.hid JC
  have H_hk1 := Lib.hid hk1
  clear hk1
  have f0 : Below w.heap.size w (w.alloc (.cells #[.int .i64 0, .int .i64 0, .string ⟨#[]⟩, .slice none 0 0] 40)) := (Below.refl _ w).al _
  have x0 := Blk.new w 40 #[.int .i64 0, .int .i64 0, .string ⟨#[]⟩, .slice none 0 0]
  have H0 := h.below f0
  have OP := Lib.hid (opens_any g c A m ts i dp 0 _ H0 t ht)
  have WR := Lib.hid (fun w' (h' : Par w' g A c m ts i dp 0) => wrong_any g c A m ts i dp 0 w' h' t ht)
  have hgl := h.blk.lt
  have HT := Lib.hid (drop_tok ht)
  obtain ⟨p, hp⟩ : ∃ p, plainD (d + 1) (ts.drop i) = p := ⟨_, rfl⟩
  rw [hp]
  rw [HT.out] at hp
  have HP := Lib.hid hp
  have HB : Hid (openB t 0 = openT (t :: ts.drop (i + 1))) := openB_T
  rw [hb] at OP HB
  have hi := h.at_
  have lim := h.st.lim
  have HH := Lib.hid h
  have HH0 := Lib.hid H0
  have F0 := Lib.hid f0
  have X0 := Lib.hid x0
  have HTT := Lib.hid ht
  have z0 := f0.size
  clear h H0 f0 x0 hp hb ht
  go_enter Tryz.func112, Tryz.ntmps112
  go_wp2_with fail
  generalize w.alloc (.cells #[.int .i64 0, .int .i64 0, .string ⟨#[]⟩, .slice none 0 0] 40) = W0 at *
  refine OP.out.mono ?_
  rintro e w1 ⟨rfl, q, rfl⟩
  clear OP
  have hdd : deep < 16 := by omega
  go_upto_region 7 with fail
  have P1 := Lib.hid (HH0.out.drewN q)
  have X1 := Lib.hid (X0.out.drewN q)
  have K1 := Lib.hid ((Kept.of_below (S := fun z => z = g) F0.out).then_ ((Kept.refl (fun z => z = g) W0).drewN q) (fun _ _ e => e))
  have zz : w.heap.size < (W0.drewN q).heap.size := X0.out.lt
  generalize W0.drewN q = W1 at *
  have hkn : t.kind ≠ 0 := open_kind HB.out.symm
  have TK : Hid (∀ W, Par W g A c m ts i dp 0 → Calls Tryz.prog 87 #[.pointer (some ⟨g, 0, none⟩), .int .i64 t.kind] W (ParTo W g c A m ts dp (tkVal t) (i + 1) 0)) := fun W hW => by
    have h1 := take_any g c A m ts i dp 0 t.kind W hW t HTT.out hkn
    have h2 : nextB t 0 t.kind = true := by simp [nextB]
    rw [if_pos h2, if_pos h2, if_pos h2] at h1
    exact h1
  have hi1 : i + 1 < ts.length := HH.out.st.more HTT.out (.inl hkn)
  have HI1 := Lib.hid hi1
  clear WR HH0 X0 F0 z0
  obtain ⟨b, o, hA, hb, hbg, q0, -, -, -, -⟩ := P1.out.st.tok HTT.out
  have hAh := Lib.hid hA
  obtain ⟨n, hn⟩ : ∃ n, ts.length = n := ⟨_, rfl⟩
  have HN := Lib.hid hn
  have B := P1.out.blk
  unfold parCells at B
  rw [hA, hn] at B
  rw [hn] at hi hi1 lim
  have g1 : (0 : Int) ≤ (i : Int) := by omega
  have g2 : (i : Int) < (n : Int) := by omega
  have hgz := B.lt
  have c0 : W1.cell? ⟨g, 0, none⟩ = some (.slice (some ⟨b, o, none⟩) n c) := B.cell 0
  have c1 : W1.cell? ⟨g, 1, none⟩ = some (.int .i64 i) := B.cell 1
  have BA := B.alloc (.cells #[.int .i64 0, .string ⟨#[]⟩, .int .i64 0, .int .i64 0, .int .i64 0] 122)
  have a0 : (W1.alloc (.cells #[.int .i64 0, .string ⟨#[]⟩, .int .i64 0, .int .i64 0, .int .i64 0] 122)).cell? ⟨g, 0, none⟩ = some (.slice (some ⟨b, o, none⟩) n c) := BA.cell 0
  have a1 : (W1.alloc (.cells #[.int .i64 0, .string ⟨#[]⟩, .int .i64 0, .int .i64 0, .int .i64 0] 122)).cell? ⟨g, 1, none⟩ = some (.int .i64 i) := BA.cell 1
  have a2 : (W1.alloc (.cells #[.int .i64 0, .string ⟨#[]⟩, .int .i64 0, .int .i64 0, .int .i64 0] 122)).cell? ⟨b, o + i * 5, none⟩ = some (.int .i64 t.kind) := (World.cell?_alloc_lt _ _ _ hb).trans q0
  have fa : Below W1.heap.size W1 (W1.alloc (.cells #[.int .i64 0, .string ⟨#[]⟩, .int .i64 0, .int .i64 0, .int .i64 0] 122)).drew := ((Below.refl _ W1).al _).drew
  have PA := Lib.hid (P1.out.below fa)
  have PD := Lib.hid (P1.out.below (Below.refl _ W1).drew)
  have XA := Lib.hid (Blk.new W1 122 #[.int .i64 0, .string ⟨#[]⟩, .int .i64 0, .int .i64 0, .int .i64 0]).drew
  have FA := Lib.hid fa
  clear B BA hA hn fa
  go_cut [5] (fun v wc => ∃ g5, v = .pointer (some ⟨g5, 0, none⟩) ∧ Hid (Blk wc g5 122 #[.int .i64 t.kind, .string (str t.text), .int .i64 t.n, .int .i64 t.line, .int .i64 t.col]) ∧ Hid (Par wc g A c m ts (i + 1) dp 0) ∧ Hid (Kept (fun z => z = g) W1 wc) ∧ Hid (W1.heap.size ≤ g5))
  case first =>
    go_region_with (first
      | (go_at_call 87; (with_reducible refine (TK.out _ PD.out).mono ?_); rintro e w4 ⟨rfl, p4, k4⟩; unfold tkVal)
      | (go_at_call 87; (with_reducible refine (TK.out _ PA.out).mono ?_); rintro e w4 ⟨rfl, p4, k4⟩; unfold tkVal; have n4 := XA.out.kept k4 (by omega); have y0 : w4.cell? ⟨W1.heap.size, 0, none⟩ = some (.int .i64 0) := n4.cell 0; have y1 : w4.cell? ⟨W1.heap.size, 1, none⟩ = some (.string ⟨#[]⟩) := n4.cell 1; have y2 : w4.cell? ⟨W1.heap.size, 2, none⟩ = some (.int .i64 0) := n4.cell 2; have y3 : w4.cell? ⟨W1.heap.size, 3, none⟩ = some (.int .i64 0) := n4.cell 3; have y4 : w4.cell? ⟨W1.heap.size, 4, none⟩ = some (.int .i64 0) := n4.cell 4; have j0 := n4.frozen 0; have j1 := n4.frozen 1; have j2 := n4.frozen 2; have j3 := n4.frozen 3; have j4 := n4.frozen 4))
    all_goals
      go_wp2_with fail
      go_meet
      case rel => first
        | (with_reducible refine ⟨w4.heap.size, rfl, ?_⟩); exact ⟨Blk.new _ _ _, p4.below ((Below.refl _ w4).al _), ((((Kept.refl (fun z => z = g) W1).drew).then_ k4 (fun _ _ e => e)).alloc _), k4.size⟩
        | (with_reducible refine ⟨W1.heap.size, rfl, ?_⟩); exact ⟨n4.put5 _ _ _ _ _, P1.out.put HI1.out (p4.blk.kept (Kept.put5 w4 W1.heap.size _ _ _ _ _) (by omega)) (((Kept.of_below (S := fun z => z = g) FA.out).then_ k4 (fun _ _ e => e)).then_ (Kept.put5 w4 W1.heap.size _ _ _ _ _) (fun z hz e => by omega)), ((Kept.of_below (S := fun z => z = g) FA.out).then_ k4 (fun _ _ e => e)).then_ (Kept.put5 w4 W1.heap.size _ _ _ _ _) (fun z hz e => by omega), Nat.le_refl _⟩
  case rest =>
    obtain ⟨g5, rfl, B5, P2, K2, hg5⟩ := hcut
    obtain ⟨W2, rfl⟩ : ∃ x, x = wc := ⟨_, rfl⟩
    have X2 := Lib.hid (X1.out.kept K2.out (by omega))
    have zz2 : W1.heap.size ≤ W2.heap.size := K2.out.size
    have hg5' : W1.heap.size ≤ g5 := hg5.out
    have hg52 : g5 < W2.heap.size := B5.out.lt
    have KW := Lib.hid (K1.out.then_ K2.out (fun _ _ e => e))
    clear TK PA PD XA FA a0 a1 a2 c0 c1 q0 K1 K2 X1 P1 hb hbg hg5
    have u0 : W2.cell? ⟨g5, 0, none⟩ = some (.int .i64 t.kind) := B5.out.cell 0
    have u1 : W2.cell? ⟨g5, 1, none⟩ = some (.string (str t.text)) := B5.out.cell 1
    have u2 : W2.cell? ⟨g5, 2, none⟩ = some (.int .i64 t.n) := B5.out.cell 2
    have hk1 := H_hk1.out
    rw [hk1] at u0
    obtain ⟨t2, ht2⟩ := ParS.at_some P2.out.at_
    have SK : Hid (Calls Tryz.prog 86 #[.pointer (some ⟨g, 0, none⟩), .string ⟨#[91]⟩] W2 (ParTo W2 g c A m ts dp (.bool (hasB t2 0 [91])) (if hasB t2 0 [91] then i + 1 + 1 else i + 1) 0)) := skip_any g c A m ts (i + 1) dp 0 [91] W2 P2.out t2 ht2
    have HB2 : Hid (hasB t2 0 [91] = hasT [91] (ts.drop (i + 1))) := by rw [drop_tok ht2]; exact hasB_T
    rw [show hasB t2 0 [91] = false from hb2.out.symm ▸ HB2.out] at SK HB2
    have HR : Hid (p = .ok (.nam t.text) (ts.drop (i + 1))) := HP.out.symm.trans (plainD_nam HB.out.symm hk1 HB2.out.symm)
    clear ht2
    go_wp2_with fail
    refine SK.out.mono ?_
    rintro e w3 ⟨rfl, p3, k3⟩
    have P3 : Hid (Par w3 g A c m ts (i + 1) dp 0) := p3
    have B53 := B5.out.kept k3 (by omega)
    have x3 := X2.out.kept k3 (by omega)
    have K3 := Lib.hid k3
    clear u0 u1 u2 p3 k3 SK
    have u0 : w3.cell? ⟨g5, 0, none⟩ = some (.int .i64 t.kind) := B53.cell 0
    rw [hk1] at u0
    have u1 : w3.cell? ⟨g5, 1, none⟩ = some (.string (str t.text)) := B53.cell 1
    have s0 : w3.cell? ⟨w.heap.size, 0, none⟩ = some (.int .i64 0) := x3.cell 0
    have t0 := x3.frozen 0
    have s1 : w3.cell? ⟨w.heap.size, 1, none⟩ = some (.int .i64 0) := x3.cell 1
    have t1 := x3.frozen 1
    have s2 : w3.cell? ⟨w.heap.size, 2, none⟩ = some (.string ⟨#[]⟩) := x3.cell 2
    have t2 := x3.frozen 2
    have s3 : w3.cell? ⟨w.heap.size, 3, none⟩ = some (.slice none 0 0) := x3.cell 3
    have t3 := x3.frozen 3
    go_wp2_with fail
    clear s0 s1 s2 s3
    have X9 := (x3).put4 (.int .i64 1) (.int .i64 0) (.string (str t.text)) (.slice none 0 0)
    have K9 := Kept.put4 w3 w.heap.size (.int .i64 1) (.int .i64 0) (.string (str t.text)) (.slice none 0 0)
    generalize (((w3.setCell ⟨w.heap.size, 0, none⟩ (.int .i64 1)).setCell ⟨w.heap.size, 1, none⟩ (.int .i64 0)).setCell ⟨w.heap.size, 2, none⟩ (.string (str t.text))).setCell ⟨w.heap.size, 3, none⟩ (.slice none 0 0) = W9 at *
    have s0 : W9.cell? ⟨w.heap.size, 0, none⟩ = some (.int .i64 1) := X9.cell 0
    have s1 : W9.cell? ⟨w.heap.size, 1, none⟩ = some (.int .i64 0) := X9.cell 1
    have s2 : W9.cell? ⟨w.heap.size, 2, none⟩ = some (.string (str t.text)) := X9.cell 2
    have s3 : W9.cell? ⟨w.heap.size, 3, none⟩ = some (.slice none 0 0) := X9.cell 3
    have KK : Kept (fun z => z = g) w W9 := (KW.out.then_ K3.out (fun _ _ e => e)).then_ K9 (fun z hz e => by omega)
    refine bodyPost_ret (v := .agg #[.int .i64 1, .int .i64 0, .string (str t.text), .slice none 0 0]) (by simp [results, Tryz.results112, go_sem, s0, s1, s2, s3]) rfl ⟨_, _, _, _, _, _, rfl, KK, ?_⟩
    rw [HR.out]
    exact ⟨i + 1, 0, P3.out.at_, P3.out.blk.kept K9 (by omega), rfl, rfl, rfl⟩
end Go.Proofs.YtdgekckedchjbaaGreatDoor
namespace Go.Proofs.YtdgekckedchjbaaGreatDoor
open Go.RowKit

set_option maxHeartbeats 4000000 in
set_option maxRecDepth 100000 in
theorem plain_idx (g c : Nat) (A : Option Addr) (m : Nat → Nat) (ts : List Tk) (dp : Int) (d : Nat) (PC : PlainC g c A m ts dp d) (JC : JoinC g c A m ts dp d 5) (deep : Int) (i : Nat) (w : World) (hd : deep + ((d + 1 : Nat) : Int) = 16) (h0 : 0 ≤ deep) (h : Par w g A c m ts i dp 0) (t : Tk) (ht : ts[i]? = some t) (hb : openB t 0 = true) (hk1 : t.kind = 1) (hb2 : Hid (hasT [91] (ts.drop (i + 1)) = true)) : Calls Tryz.prog 112 #[.pointer (some ⟨g, 0, none⟩), .int .i64 deep] w (ExTo w g c A m ts dp (plainD (d + 1) (ts.drop i))) := by
  have hdh := And.intro hd h0
  clear hdh
  have PC := Lib.hid PC
  have JC := Lib.hid JC
  have H_hk1 := Lib.hid hk1
  clear hk1
  have f0 : Below w.heap.size w (w.alloc (.cells #[.int .i64 0, .int .i64 0, .string ⟨#[]⟩, .slice none 0 0] 40)) := (Below.refl _ w).al _
  have x0 := Blk.new w 40 #[.int .i64 0, .int .i64 0, .string ⟨#[]⟩, .slice none 0 0]
  have H0 := h.below f0
  have OP := Lib.hid (opens_any g c A m ts i dp 0 _ H0 t ht)
  have WR := Lib.hid (fun w' (h' : Par w' g A c m ts i dp 0) => wrong_any g c A m ts i dp 0 w' h' t ht)
  have hgl := h.blk.lt
  have HT := Lib.hid (drop_tok ht)
  obtain ⟨p, hp⟩ : ∃ p, plainD (d + 1) (ts.drop i) = p := ⟨_, rfl⟩
  rw [hp]
  rw [HT.out] at hp
  have HP := Lib.hid hp
  have HB : Hid (openB t 0 = openT (t :: ts.drop (i + 1))) := openB_T
  rw [hb] at OP HB
  have hi := h.at_
  have lim := h.st.lim
  have HH := Lib.hid h
  have HH0 := Lib.hid H0
  have F0 := Lib.hid f0
  have X0 := Lib.hid x0
  have HTT := Lib.hid ht
  have z0 := f0.size
  clear h H0 f0 x0 hp hb ht
  go_enter Tryz.func112, Tryz.ntmps112
  go_wp2_with fail
  generalize w.alloc (.cells #[.int .i64 0, .int .i64 0, .string ⟨#[]⟩, .slice none 0 0] 40) = W0 at *
  refine OP.out.mono ?_
  rintro e w1 ⟨rfl, q, rfl⟩
  clear OP
  have hdd : deep < 16 := by omega
  go_upto_region 7 with fail
  have P1 := Lib.hid (HH0.out.drewN q)
  have X1 := Lib.hid (X0.out.drewN q)
  have K1 := Lib.hid ((Kept.of_below (S := fun z => z = g) F0.out).then_ ((Kept.refl (fun z => z = g) W0).drewN q) (fun _ _ e => e))
  have zz : w.heap.size < (W0.drewN q).heap.size := X0.out.lt
  generalize W0.drewN q = W1 at *
  have hkn : t.kind ≠ 0 := open_kind HB.out.symm
  have TK : Hid (∀ W, Par W g A c m ts i dp 0 → Calls Tryz.prog 87 #[.pointer (some ⟨g, 0, none⟩), .int .i64 t.kind] W (ParTo W g c A m ts dp (tkVal t) (i + 1) 0)) := fun W hW => by
    have h1 := take_any g c A m ts i dp 0 t.kind W hW t HTT.out hkn
    have h2 : nextB t 0 t.kind = true := by simp [nextB]
    rw [if_pos h2, if_pos h2, if_pos h2] at h1
    exact h1
  have hi1 : i + 1 < ts.length := HH.out.st.more HTT.out (.inl hkn)
  have HI1 := Lib.hid hi1
  clear WR HH0 X0 F0 z0
  obtain ⟨b, o, hA, hb, hbg, q0, -, -, -, -⟩ := P1.out.st.tok HTT.out
  have hAh := Lib.hid hA
  obtain ⟨n, hn⟩ : ∃ n, ts.length = n := ⟨_, rfl⟩
  have HN := Lib.hid hn
  have B := P1.out.blk
  unfold parCells at B
  rw [hA, hn] at B
  rw [hn] at hi hi1 lim
  have g1 : (0 : Int) ≤ (i : Int) := by omega
  have g2 : (i : Int) < (n : Int) := by omega
  have hgz := B.lt
  have c0 : W1.cell? ⟨g, 0, none⟩ = some (.slice (some ⟨b, o, none⟩) n c) := B.cell 0
  have c1 : W1.cell? ⟨g, 1, none⟩ = some (.int .i64 i) := B.cell 1
  have BA := B.alloc (.cells #[.int .i64 0, .string ⟨#[]⟩, .int .i64 0, .int .i64 0, .int .i64 0] 122)
  have a0 : (W1.alloc (.cells #[.int .i64 0, .string ⟨#[]⟩, .int .i64 0, .int .i64 0, .int .i64 0] 122)).cell? ⟨g, 0, none⟩ = some (.slice (some ⟨b, o, none⟩) n c) := BA.cell 0
  have a1 : (W1.alloc (.cells #[.int .i64 0, .string ⟨#[]⟩, .int .i64 0, .int .i64 0, .int .i64 0] 122)).cell? ⟨g, 1, none⟩ = some (.int .i64 i) := BA.cell 1
  have a2 : (W1.alloc (.cells #[.int .i64 0, .string ⟨#[]⟩, .int .i64 0, .int .i64 0, .int .i64 0] 122)).cell? ⟨b, o + i * 5, none⟩ = some (.int .i64 t.kind) := (World.cell?_alloc_lt _ _ _ hb).trans q0
  have fa : Below W1.heap.size W1 (W1.alloc (.cells #[.int .i64 0, .string ⟨#[]⟩, .int .i64 0, .int .i64 0, .int .i64 0] 122)).drew := ((Below.refl _ W1).al _).drew
  have PA := Lib.hid (P1.out.below fa)
  have PD := Lib.hid (P1.out.below (Below.refl _ W1).drew)
  have XA := Lib.hid (Blk.new W1 122 #[.int .i64 0, .string ⟨#[]⟩, .int .i64 0, .int .i64 0, .int .i64 0]).drew
  have FA := Lib.hid fa
  clear B BA hA hn fa
  go_cut [5] (fun v wc => ∃ g5, v = .pointer (some ⟨g5, 0, none⟩) ∧ Hid (Blk wc g5 122 #[.int .i64 t.kind, .string (str t.text), .int .i64 t.n, .int .i64 t.line, .int .i64 t.col]) ∧ Hid (Par wc g A c m ts (i + 1) dp 0) ∧ Hid (Kept (fun z => z = g) W1 wc) ∧ Hid (W1.heap.size ≤ g5))
  case first =>
    go_region_with (first
      | (go_at_call 87; (with_reducible refine (TK.out _ PD.out).mono ?_); rintro e w4 ⟨rfl, p4, k4⟩; unfold tkVal)
      | (go_at_call 87; (with_reducible refine (TK.out _ PA.out).mono ?_); rintro e w4 ⟨rfl, p4, k4⟩; unfold tkVal; have n4 := XA.out.kept k4 (by omega); have y0 : w4.cell? ⟨W1.heap.size, 0, none⟩ = some (.int .i64 0) := n4.cell 0; have y1 : w4.cell? ⟨W1.heap.size, 1, none⟩ = some (.string ⟨#[]⟩) := n4.cell 1; have y2 : w4.cell? ⟨W1.heap.size, 2, none⟩ = some (.int .i64 0) := n4.cell 2; have y3 : w4.cell? ⟨W1.heap.size, 3, none⟩ = some (.int .i64 0) := n4.cell 3; have y4 : w4.cell? ⟨W1.heap.size, 4, none⟩ = some (.int .i64 0) := n4.cell 4; have j0 := n4.frozen 0; have j1 := n4.frozen 1; have j2 := n4.frozen 2; have j3 := n4.frozen 3; have j4 := n4.frozen 4))
    all_goals
      go_wp2_with fail
      go_meet
      case rel => first
        | (with_reducible refine ⟨w4.heap.size, rfl, ?_⟩); exact ⟨Blk.new _ _ _, p4.below ((Below.refl _ w4).al _), ((((Kept.refl (fun z => z = g) W1).drew).then_ k4 (fun _ _ e => e)).alloc _), k4.size⟩
        | (with_reducible refine ⟨W1.heap.size, rfl, ?_⟩); exact ⟨n4.put5 _ _ _ _ _, P1.out.put HI1.out (p4.blk.kept (Kept.put5 w4 W1.heap.size _ _ _ _ _) (by omega)) (((Kept.of_below (S := fun z => z = g) FA.out).then_ k4 (fun _ _ e => e)).then_ (Kept.put5 w4 W1.heap.size _ _ _ _ _) (fun z hz e => by omega)), ((Kept.of_below (S := fun z => z = g) FA.out).then_ k4 (fun _ _ e => e)).then_ (Kept.put5 w4 W1.heap.size _ _ _ _ _) (fun z hz e => by omega), Nat.le_refl _⟩
  case rest =>
    obtain ⟨g5, rfl, B5, P2, K2, hg5⟩ := hcut
    obtain ⟨W2, rfl⟩ : ∃ x, x = wc := ⟨_, rfl⟩
    have X2 := Lib.hid (X1.out.kept K2.out (by omega))
    have zz2 : W1.heap.size ≤ W2.heap.size := K2.out.size
    have hg5' : W1.heap.size ≤ g5 := hg5.out
    have hg52 : g5 < W2.heap.size := B5.out.lt
    have KW := Lib.hid (K1.out.then_ K2.out (fun _ _ e => e))
    clear TK PA PD XA FA a0 a1 a2 c0 c1 q0 K1 K2 X1 P1 hb hbg hg5
    have u0 : W2.cell? ⟨g5, 0, none⟩ = some (.int .i64 t.kind) := B5.out.cell 0
    have u1 : W2.cell? ⟨g5, 1, none⟩ = some (.string (str t.text)) := B5.out.cell 1
    have u2 : W2.cell? ⟨g5, 2, none⟩ = some (.int .i64 t.n) := B5.out.cell 2
    have hk1 := H_hk1.out
    rw [hk1] at u0
    obtain ⟨t2, ht2⟩ := ParS.at_some P2.out.at_
    have SK : Hid (Calls Tryz.prog 86 #[.pointer (some ⟨g, 0, none⟩), .string ⟨#[91]⟩] W2 (ParTo W2 g c A m ts dp (.bool (hasB t2 0 [91])) (if hasB t2 0 [91] then i + 1 + 1 else i + 1) 0)) := skip_any g c A m ts (i + 1) dp 0 [91] W2 P2.out t2 ht2
    have HB2 : Hid (hasB t2 0 [91] = hasT [91] (ts.drop (i + 1))) := by rw [drop_tok ht2]; exact hasB_T
    rw [show hasB t2 0 [91] = true from hb2.out.symm ▸ HB2.out] at SK HB2
    have HR : Hid (p = (joinL (plainD d) 5 (ts.drop (i + 1 + 1))).thenMust [93] (.idx t.text)) := HP.out.symm.trans ((plainD_idx HB.out.symm hk1 HB2.out.symm).trans (by rw [List.tail_drop]))
    have JW : Hid (∀ W, Par W g A c m ts (i + 1 + 1) dp 0 → Calls Tryz.prog 77 #[.pointer (some ⟨g, 0, none⟩), .int .i64 0, .int .i64 (deep + 1)] W (ExTo W g c A m ts dp (joinL (plainD d) 5 (ts.drop (i + 1 + 1))))) := fun W hW => JC.out (deep + 1) 0 (i + 1 + 1) W (by omega) (by omega) (by omega) hW
    generalize joinL (plainD d) 5 (ts.drop (i + 1 + 1)) = pj at *
    clear ht2
    go_wp2_with fail
    refine SK.out.mono ?_
    rintro e w3 ⟨rfl, p3, k3⟩
    have P3 : Hid (Par w3 g A c m ts (i + 1 + 1) dp 0) := p3
    have B53 := Lib.hid (B5.out.kept k3 (by omega))
    have X3 := Lib.hid (X2.out.kept k3 (by omega))
    have K3 := Lib.hid (KW.out.then_ k3 (fun _ _ e => e))
    have zz3 := k3.size
    clear u0 u1 u2 p3 k3 SK B5 P2 X2 KW PC JC
    go_upto_region 11 with fail
    have QS : Hid (∀ W, Kept (fun z => z = g) w3 W → W.cell? ⟨g5, 1, none⟩ = some (.string (str t.text))) := fun W hW => (B53.out.kept hW (by omega)).cell 1
    have kk0 := (Kept.refl (fun z => z = g) w3).drew
    have kkA := ((Kept.refl (fun z => z = g) w3).alloc (.cells #[.int .i64 0, .int .i64 0, .string ⟨#[]⟩, .slice none 0 0] 40)).drew
    have PD := Lib.hid (P3.out.below (Below.refl _ w3).drew)
    have PA := Lib.hid (P3.out.below ((Below.refl _ w3).al (.cells #[.int .i64 0, .int .i64 0, .string ⟨#[]⟩, .slice none 0 0] 40)).drew)
    have XA := Lib.hid (Blk.new w3 40 #[.int .i64 0, .int .i64 0, .string ⟨#[]⟩, .slice none 0 0]).drew
    have gz3 := P3.out.blk.lt
    have hwd : IntKind.i64.wrap (deep + 1) = deep + 1 := IntWalk.i64_in _ ⟨by omega, by omega⟩
    go_cut [6] (fun v wc => ∃ g6 b6 op N nm B l k, v = .pointer (some ⟨g6, 0, none⟩) ∧ Hid (Blk wc g6 40 #[.int .i64 2, .int .i64 0, .string (str t.text), .slice (some ⟨b6, 0, none⟩) 1 1]) ∧ Hid (Blk wc b6 40 #[.int .i64 op, .int .i64 N, .string nm, .slice B l k]) ∧ Hid (ExAt w3.heap.size g c A m ts dp [.int .i64 op, .int .i64 N, .string nm, .slice B l k] wc pj) ∧ Hid (Kept (fun z => z = g) w3 wc) ∧ Hid (w3.heap.size ≤ g6) ∧ Hid (w3.heap.size ≤ b6))
    case first =>
      go_region_held3 (fun W => W.cell? ⟨g5, 1, none⟩ = some (.string (str t.text)))
        (first | exact QS.out _ kk0 | exact QS.out _ kkA | exact QS.out _ kk | exact QS.out _ (kk.alloc _) | exact QS.out _ ((kk.alloc _).alloc _) | exact QS.out _ ((kk.alloc _).then_ (Kept.put4 _ w3.heap.size _ _ _ _) (fun z hz e => by omega)) | exact QS.out _ (((kk.alloc _).alloc _).then_ (Kept.put4 _ w4.heap.size _ _ _ _) (fun z hz e => by have := kk.size; omega)) | exact QS.out _ (((kk.alloc _).alloc _).then_ (Kept.put4 _ (w4.heap.size + 1) _ _ _ _) (fun z hz e => by have := kk.size; omega)))
        (first
        | (go_at_call 77; (with_reducible refine (JW.out _ PD.out).mono ?_); rintro e w4 ⟨op, N, nm, B, l, k, rfl, k4, h4⟩; have kk := kk0.then_ k4 (fun _ _ e => e); have n5 := (fun o => (Blk.new w4 40 #[.int .i64 0, .int .i64 0, .string ⟨#[]⟩, .slice none 0 0]).alloc o); have y0 := (fun o => (n5 o).cell 0); have y1 := (fun o => (n5 o).cell 1); have y2 := (fun o => (n5 o).cell 2); have y3 := (fun o => (n5 o).cell 3); have j0 := (fun o => (n5 o).frozen 0); have j1 := (fun o => (n5 o).frozen 1); have j2 := (fun o => (n5 o).frozen 2); have j3 := (fun o => (n5 o).frozen 3))
        | (go_at_call 77; (with_reducible refine (JW.out _ PA.out).mono ?_); rintro e w4 ⟨op, N, nm, B, l, k, rfl, k4, h4⟩; have kk := kkA.then_ k4 (fun _ _ e => e); have n4 := XA.out.kept k4 (by omega); have n5 := (fun o => n4.alloc o); have y0 := (fun o => (n5 o).cell 0); have y1 := (fun o => (n5 o).cell 1); have y2 := (fun o => (n5 o).cell 2); have y3 := (fun o => (n5 o).cell 3); have j0 := (fun o => (n5 o).frozen 0); have j1 := (fun o => (n5 o).frozen 1); have j2 := (fun o => (n5 o).frozen 2); have j3 := (fun o => (n5 o).frozen 3)))
      all_goals
        go_wp2_with fail
        go_meet
        case rel => first
          | (with_reducible refine ⟨w4.heap.size + 1, w4.heap.size, op, N, nm, B, l, k, rfl, ?_⟩); exact ⟨(two_new w4 _ _ _ _).2, (two_new w4 _ _ _ _).1, h4.kept (S := fun _ => False) (((Kept.refl _ w4).alloc _).alloc _) (fun h => h) (fun _ _ h => h), (kk.alloc _).alloc _, Nat.le_succ_of_le kk.size, kk.size⟩
          | (with_reducible refine ⟨w4.heap.size, w4.heap.size + 1, op, N, nm, B, l, k, rfl, ?_⟩); exact ⟨(two_new w4 _ _ _ _).1, (two_new w4 _ _ _ _).2, h4.kept (S := fun _ => False) (((Kept.refl _ w4).alloc _).alloc _) (fun h => h) (fun _ _ h => h), (kk.alloc _).alloc _, kk.size, Nat.le_succ_of_le kk.size⟩
          | (with_reducible refine ⟨w3.heap.size, w4.heap.size, op, N, nm, B, l, k, rfl, ?_⟩); exact ⟨(n4.alloc _).put4 _ _ _ _, (Blk.new w4 _ _).kept (Kept.put4 _ w3.heap.size _ _ _ _) (by have := n4.lt; omega), (h4.kept (S := fun z => z = w3.heap.size) (((Kept.refl (fun z => z = w3.heap.size) w4).alloc _).then_ (Kept.put4 _ w3.heap.size _ _ _ _) (fun _ _ e => e)) (by omega) (fun z hz e => by simp at hz; omega)).base_le (by simp), (kk.alloc _).then_ (Kept.put4 _ w3.heap.size _ _ _ _) (fun z hz e => by omega), Nat.le_refl _, kk.size⟩
    case rest =>
      obtain ⟨g6, b6, op, N, nm, B, l, k, rfl, B6, Bb6, hx, K4, hg6, hb6⟩ := hcut
      obtain ⟨W4, rfl⟩ : ∃ x, x = wc := ⟨_, rfl⟩
      obtain ⟨i', er', hi', hbk, hpj⟩ := hx.out
      have P4 := P3.out.put hi' hbk K4.out
      obtain ⟨t', ht'⟩ := ParS.at_some hi'
      have MU : Hid (Calls Tryz.prog 55 #[.pointer (some ⟨g, 0, none⟩), .string ⟨#[93]⟩] W4 (ParTo W4 g c A m ts dp (.tuple #[]) (if hasB t' er' [93] then i' + 1 else i') (mustE t' er' [93]))) := must_any g c A m ts i' dp er' [93] W4 P4 t' ht'
      have x4 := X3.out.kept K4.out (by omega)
      have K34 := Lib.hid (K3.out.then_ K4.out (fun _ _ e => e))
      have HPJ := Lib.hid hpj
      have HT' := Lib.hid ht'
      have zz4 := K4.out.size
      have hg6' : w3.heap.size ≤ g6 := hg6.out
      have hb6' : w3.heap.size ≤ b6 := hb6.out
      have hg64 := B6.out.lt
      have hb64 := Bb6.out.lt
      obtain ⟨i5, hi5⟩ : ∃ i5, (if hasB t' er' [93] then i' + 1 else i') = i5 := ⟨_, rfl⟩
      obtain ⟨er5, her5⟩ : ∃ er5, mustE t' er' [93] = er5 := ⟨_, rfl⟩
      rw [hi5, her5] at MU
      have HI5 := Lib.hid hi5
      have HER5 := Lib.hid her5
      clear hx hpj ht' hi5 her5 hbk P4 QS kk0 kkA PD PA XA JW hg6 hb6 hwd
      go_upto_region 12 with fail
      go_wp2_with fail
      refine MU.out.mono ?_
      rintro e W5 ⟨rfl, p5, k5⟩
      have x5 := x4.kept k5 (by omega)
      have B65 := B6.out.kept k5 (by omega)
      have v0 : W5.cell? ⟨g6, 0, none⟩ = some (.int .i64 2) := B65.cell 0
      have v1 : W5.cell? ⟨g6, 1, none⟩ = some (.int .i64 0) := B65.cell 1
      have v2 : W5.cell? ⟨g6, 2, none⟩ = some (.string (str t.text)) := B65.cell 2
      have v3 : W5.cell? ⟨g6, 3, none⟩ = some (.slice (some ⟨b6, 0, none⟩) 1 1) := B65.cell 3
      have P5 := Lib.hid p5
      have K5 := Lib.hid k5
      clear p5 k5 MU x4
      have s0 : W5.cell? ⟨w.heap.size, 0, none⟩ = some (.int .i64 0) := x5.cell 0
      have t0 := x5.frozen 0
      have s1 : W5.cell? ⟨w.heap.size, 1, none⟩ = some (.int .i64 0) := x5.cell 1
      have t1 := x5.frozen 1
      have s2 : W5.cell? ⟨w.heap.size, 2, none⟩ = some (.string ⟨#[]⟩) := x5.cell 2
      have t2 := x5.frozen 2
      have s3 : W5.cell? ⟨w.heap.size, 3, none⟩ = some (.slice none 0 0) := x5.cell 3
      have t3 := x5.frozen 3
      go_wp2_with fail
      clear s0 s1 s2 s3
      have X9 := (x5).put4 (.int .i64 2) (.int .i64 0) (.string (str t.text)) (.slice (some ⟨b6, 0, none⟩) 1 1)
      have K9 := Kept.put4 W5 w.heap.size (.int .i64 2) (.int .i64 0) (.string (str t.text)) (.slice (some ⟨b6, 0, none⟩) 1 1)
      generalize (((W5.setCell ⟨w.heap.size, 0, none⟩ (.int .i64 2)).setCell ⟨w.heap.size, 1, none⟩ (.int .i64 0)).setCell ⟨w.heap.size, 2, none⟩ (.string (str t.text))).setCell ⟨w.heap.size, 3, none⟩ (.slice (some ⟨b6, 0, none⟩) 1 1) = W9 at *
      have s0 : W9.cell? ⟨w.heap.size, 0, none⟩ = some (.int .i64 2) := X9.cell 0
      have s1 : W9.cell? ⟨w.heap.size, 1, none⟩ = some (.int .i64 0) := X9.cell 1
      have s2 : W9.cell? ⟨w.heap.size, 2, none⟩ = some (.string (str t.text)) := X9.cell 2
      have s3 : W9.cell? ⟨w.heap.size, 3, none⟩ = some (.slice (some ⟨b6, 0, none⟩) 1 1) := X9.cell 3
      have KK : Kept (fun z => z = g) w W9 := (K34.out.then_ K5.out (fun _ _ e => e)).then_ K9 (fun z hz e => by omega)
      refine bodyPost_ret (v := .agg #[.int .i64 2, .int .i64 0, .string (str t.text), .slice (some ⟨b6, 0, none⟩) 1 1]) (by simp [results, Tryz.results112, go_sem, s0, s1, s2, s3]) rfl ⟨_, _, _, _, _, _, rfl, KK, ?_⟩
      rw [HR.out]
      have K59 : Kept (fun z => z = g ∨ z = w.heap.size) W4 W9 := (K5.out.mono (T := fun z => z = g ∨ z = w.heap.size) (fun _ _ e => .inl e)).then_ K9 (fun _ _ e => .inr e)
      refine ExAt.must (.idx t.text) HPJ.out HT'.out (by rw [HI5.out]; exact P5.out.at_) (by rw [HI5.out, HER5.out]; exact P5.out.blk.kept K9 (by omega)) (fun y hy => ⟨b6, _, rfl, by omega, Bb6.out.kept K59 (fun e => by rcases e with e | e <;> omega), (hy.kept K59 (fun z hz e => by rcases e with e | e <;> omega)).mono (fun z _ hz => by omega)⟩)
end Go.Proofs.YtdgekckedchjbaaGreatDoor
namespace Go.Proofs.YtdgekckedchjbaaGreatDoor
open Go.RowKit

set_option maxHeartbeats 4000000 in
set_option maxRecDepth 100000 in
theorem plain_par (g c : Nat) (A : Option Addr) (m : Nat → Nat) (ts : List Tk) (dp : Int) (d : Nat) (PC : PlainC g c A m ts dp d) (JC : JoinC g c A m ts dp d 5) (deep : Int) (i : Nat) (w : World) (hd : deep + ((d + 1 : Nat) : Int) = 16) (h0 : 0 ≤ deep) (h : Par w g A c m ts i dp 0) (t : Tk) (ht : ts[i]? = some t) (hb : openB t 0 = true) (hn2 : t.kind ≠ 2) (hn1 : t.kind ≠ 1) (hx : t.text = [40]) : Calls Tryz.prog 112 #[.pointer (some ⟨g, 0, none⟩), .int .i64 deep] w (ExTo w g c A m ts dp (plainD (d + 1) (ts.drop i))) := by
  have hdh := And.intro hd h0
  clear hdh
  have PC := Lib.hid PC
  have JC := Lib.hid JC
  have H_hn2 := Lib.hid hn2
  clear hn2
  have H_hn1 := Lib.hid hn1
  clear hn1
  have H_hx := Lib.hid hx
  clear hx
  have f0 : Below w.heap.size w (w.alloc (.cells #[.int .i64 0, .int .i64 0, .string ⟨#[]⟩, .slice none 0 0] 40)) := (Below.refl _ w).al _
  have x0 := Blk.new w 40 #[.int .i64 0, .int .i64 0, .string ⟨#[]⟩, .slice none 0 0]
  have H0 := h.below f0
  have OP := Lib.hid (opens_any g c A m ts i dp 0 _ H0 t ht)
  have WR := Lib.hid (fun w' (h' : Par w' g A c m ts i dp 0) => wrong_any g c A m ts i dp 0 w' h' t ht)
  have hgl := h.blk.lt
  have HT := Lib.hid (drop_tok ht)
  obtain ⟨p, hp⟩ : ∃ p, plainD (d + 1) (ts.drop i) = p := ⟨_, rfl⟩
  rw [hp]
  rw [HT.out] at hp
  have HP := Lib.hid hp
  have HB : Hid (openB t 0 = openT (t :: ts.drop (i + 1))) := openB_T
  rw [hb] at OP HB
  have hi := h.at_
  have lim := h.st.lim
  have HH := Lib.hid h
  have HH0 := Lib.hid H0
  have F0 := Lib.hid f0
  have X0 := Lib.hid x0
  have HTT := Lib.hid ht
  have z0 := f0.size
  clear h H0 f0 x0 hp hb ht
  go_enter Tryz.func112, Tryz.ntmps112
  go_wp2_with fail
  generalize w.alloc (.cells #[.int .i64 0, .int .i64 0, .string ⟨#[]⟩, .slice none 0 0] 40) = W0 at *
  refine OP.out.mono ?_
  rintro e w1 ⟨rfl, q, rfl⟩
  clear OP
  have hdd : deep < 16 := by omega
  go_upto_region 7 with fail
  have P1 := Lib.hid (HH0.out.drewN q)
  have X1 := Lib.hid (X0.out.drewN q)
  have K1 := Lib.hid ((Kept.of_below (S := fun z => z = g) F0.out).then_ ((Kept.refl (fun z => z = g) W0).drewN q) (fun _ _ e => e))
  have zz : w.heap.size < (W0.drewN q).heap.size := X0.out.lt
  generalize W0.drewN q = W1 at *
  have hkn : t.kind ≠ 0 := open_kind HB.out.symm
  have TK : Hid (∀ W, Par W g A c m ts i dp 0 → Calls Tryz.prog 87 #[.pointer (some ⟨g, 0, none⟩), .int .i64 t.kind] W (ParTo W g c A m ts dp (tkVal t) (i + 1) 0)) := fun W hW => by
    have h1 := take_any g c A m ts i dp 0 t.kind W hW t HTT.out hkn
    have h2 : nextB t 0 t.kind = true := by simp [nextB]
    rw [if_pos h2, if_pos h2, if_pos h2] at h1
    exact h1
  have hi1 : i + 1 < ts.length := HH.out.st.more HTT.out (.inl hkn)
  have HI1 := Lib.hid hi1
  clear WR HH0 X0 F0 z0
  obtain ⟨b, o, hA, hb, hbg, q0, -, -, -, -⟩ := P1.out.st.tok HTT.out
  have hAh := Lib.hid hA
  obtain ⟨n, hn⟩ : ∃ n, ts.length = n := ⟨_, rfl⟩
  have HN := Lib.hid hn
  have B := P1.out.blk
  unfold parCells at B
  rw [hA, hn] at B
  rw [hn] at hi hi1 lim
  have g1 : (0 : Int) ≤ (i : Int) := by omega
  have g2 : (i : Int) < (n : Int) := by omega
  have hgz := B.lt
  have c0 : W1.cell? ⟨g, 0, none⟩ = some (.slice (some ⟨b, o, none⟩) n c) := B.cell 0
  have c1 : W1.cell? ⟨g, 1, none⟩ = some (.int .i64 i) := B.cell 1
  have BA := B.alloc (.cells #[.int .i64 0, .string ⟨#[]⟩, .int .i64 0, .int .i64 0, .int .i64 0] 122)
  have a0 : (W1.alloc (.cells #[.int .i64 0, .string ⟨#[]⟩, .int .i64 0, .int .i64 0, .int .i64 0] 122)).cell? ⟨g, 0, none⟩ = some (.slice (some ⟨b, o, none⟩) n c) := BA.cell 0
  have a1 : (W1.alloc (.cells #[.int .i64 0, .string ⟨#[]⟩, .int .i64 0, .int .i64 0, .int .i64 0] 122)).cell? ⟨g, 1, none⟩ = some (.int .i64 i) := BA.cell 1
  have a2 : (W1.alloc (.cells #[.int .i64 0, .string ⟨#[]⟩, .int .i64 0, .int .i64 0, .int .i64 0] 122)).cell? ⟨b, o + i * 5, none⟩ = some (.int .i64 t.kind) := (World.cell?_alloc_lt _ _ _ hb).trans q0
  have fa : Below W1.heap.size W1 (W1.alloc (.cells #[.int .i64 0, .string ⟨#[]⟩, .int .i64 0, .int .i64 0, .int .i64 0] 122)).drew := ((Below.refl _ W1).al _).drew
  have PA := Lib.hid (P1.out.below fa)
  have PD := Lib.hid (P1.out.below (Below.refl _ W1).drew)
  have XA := Lib.hid (Blk.new W1 122 #[.int .i64 0, .string ⟨#[]⟩, .int .i64 0, .int .i64 0, .int .i64 0]).drew
  have FA := Lib.hid fa
  clear B BA hA hn fa
  go_cut [5] (fun v wc => ∃ g5, v = .pointer (some ⟨g5, 0, none⟩) ∧ Hid (Blk wc g5 122 #[.int .i64 t.kind, .string (str t.text), .int .i64 t.n, .int .i64 t.line, .int .i64 t.col]) ∧ Hid (Par wc g A c m ts (i + 1) dp 0) ∧ Hid (Kept (fun z => z = g) W1 wc) ∧ Hid (W1.heap.size ≤ g5))
  case first =>
    go_region_with (first
      | (go_at_call 87; (with_reducible refine (TK.out _ PD.out).mono ?_); rintro e w4 ⟨rfl, p4, k4⟩; unfold tkVal)
      | (go_at_call 87; (with_reducible refine (TK.out _ PA.out).mono ?_); rintro e w4 ⟨rfl, p4, k4⟩; unfold tkVal; have n4 := XA.out.kept k4 (by omega); have y0 : w4.cell? ⟨W1.heap.size, 0, none⟩ = some (.int .i64 0) := n4.cell 0; have y1 : w4.cell? ⟨W1.heap.size, 1, none⟩ = some (.string ⟨#[]⟩) := n4.cell 1; have y2 : w4.cell? ⟨W1.heap.size, 2, none⟩ = some (.int .i64 0) := n4.cell 2; have y3 : w4.cell? ⟨W1.heap.size, 3, none⟩ = some (.int .i64 0) := n4.cell 3; have y4 : w4.cell? ⟨W1.heap.size, 4, none⟩ = some (.int .i64 0) := n4.cell 4; have j0 := n4.frozen 0; have j1 := n4.frozen 1; have j2 := n4.frozen 2; have j3 := n4.frozen 3; have j4 := n4.frozen 4))
    all_goals
      go_wp2_with fail
      go_meet
      case rel => first
        | (with_reducible refine ⟨w4.heap.size, rfl, ?_⟩); exact ⟨Blk.new _ _ _, p4.below ((Below.refl _ w4).al _), ((((Kept.refl (fun z => z = g) W1).drew).then_ k4 (fun _ _ e => e)).alloc _), k4.size⟩
        | (with_reducible refine ⟨W1.heap.size, rfl, ?_⟩); exact ⟨n4.put5 _ _ _ _ _, P1.out.put HI1.out (p4.blk.kept (Kept.put5 w4 W1.heap.size _ _ _ _ _) (by omega)) (((Kept.of_below (S := fun z => z = g) FA.out).then_ k4 (fun _ _ e => e)).then_ (Kept.put5 w4 W1.heap.size _ _ _ _ _) (fun z hz e => by omega)), ((Kept.of_below (S := fun z => z = g) FA.out).then_ k4 (fun _ _ e => e)).then_ (Kept.put5 w4 W1.heap.size _ _ _ _ _) (fun z hz e => by omega), Nat.le_refl _⟩
  case rest =>
    obtain ⟨g5, rfl, B5, P2, K2, hg5⟩ := hcut
    obtain ⟨W2, rfl⟩ : ∃ x, x = wc := ⟨_, rfl⟩
    have X2 := Lib.hid (X1.out.kept K2.out (by omega))
    have zz2 : W1.heap.size ≤ W2.heap.size := K2.out.size
    have hg5' : W1.heap.size ≤ g5 := hg5.out
    have hg52 : g5 < W2.heap.size := B5.out.lt
    have KW := Lib.hid (K1.out.then_ K2.out (fun _ _ e => e))
    clear TK PA PD XA FA a0 a1 a2 c0 c1 q0 K1 K2 X1 P1 hb hbg hg5
    have u0 : W2.cell? ⟨g5, 0, none⟩ = some (.int .i64 t.kind) := B5.out.cell 0
    have u1 : W2.cell? ⟨g5, 1, none⟩ = some (.string (str t.text)) := B5.out.cell 1
    have u2 : W2.cell? ⟨g5, 2, none⟩ = some (.int .i64 t.n) := B5.out.cell 2
    have hn2 := H_hn2.out
    have hn1 := H_hn1.out
    have hx := H_hx.out
    have hk2' : (t.kind == 2) = false := by simp [hn2]
    have hk1' : (t.kind == 1) = false := by simp [hn1]
    have HR : Hid (p = (joinL (plainD d) 5 (ts.drop (i + 1))).thenMust [41] id) := HP.out.symm.trans (plainD_par HB.out.symm hn2 hn1 hx)
    have JW : Hid (∀ W, Par W g A c m ts (i + 1) dp 0 → Calls Tryz.prog 77 #[.pointer (some ⟨g, 0, none⟩), .int .i64 0, .int .i64 (deep + 1)] W (ExTo W g c A m ts dp (joinL (plainD d) 5 (ts.drop (i + 1))))) := fun W hW => JC.out (deep + 1) 0 (i + 1) W (by omega) (by omega) (by omega) hW
    generalize joinL (plainD d) 5 (ts.drop (i + 1)) = pj at *
    have hwd : IntKind.i64.wrap (deep + 1) = deep + 1 := IntWalk.i64_in _ ⟨by omega, by omega⟩
    rw [hx] at u1
    change W2.cell? ⟨g5, 1, none⟩ = some (.string ⟨#[40]⟩) at u1
    clear PC JC
    go_upto_region 17 with fail
    clear u0 u1 u2 hk2' hk1' hx hn2 hn1
    go_wp2_with fail
    refine (JW.out _ P2.out).mono ?_
    rintro e w4 ⟨op, N, nm, B, l, k, rfl, k4, h4⟩
    have x4 := X2.out.kept k4 (by omega)
    have zz4 := k4.size
    have hgw := P2.out.blk.lt
    have X4 := Lib.hid x4
    have K4 := Lib.hid k4
    have H4 := Lib.hid h4
    clear k4 h4 JW x4 hwd
    go_upto_region 18 with fail
    have K45 := (Kept.refl (fun z => z = w4.heap.size) w4).alloc (.cells #[.int .i64 op, .int .i64 N, .string nm, .slice B l k] 40)
    have B7 := Blk.new w4 40 #[.int .i64 op, .int .i64 N, .string nm, .slice B l k]
    generalize w4.alloc (.cells #[.int .i64 op, .int .i64 N, .string nm, .slice B l k] 40) = W5 at *
    have B7 := Lib.hid B7
    have X5 := Lib.hid (X4.out.kept K45 (by omega))
    have zz5 := K45.size
    have h5 := H4.out.kept_lt K45 (by omega) (fun z hz _ e => by omega)
    have KW5 := Lib.hid ((KW.out.then_ K4.out (fun _ _ e => e)).then_ K45 (fun z hz e => by omega))
    obtain ⟨i', er', hi', hbk, hpj⟩ := h5
    have P5 := P2.out.put hi' hbk ((K4.out.then_ K45 (fun z hz e => by omega)))
    obtain ⟨t', ht'⟩ := ParS.at_some hi'
    have MU : Hid (Calls Tryz.prog 55 #[.pointer (some ⟨g, 0, none⟩), .string ⟨#[41]⟩] W5 (ParTo W5 g c A m ts dp (.tuple #[]) (if hasB t' er' [41] then i' + 1 else i') (mustE t' er' [41]))) := must_any g c A m ts i' dp er' [41] W5 P5 t' ht'
    have HPJ := Lib.hid hpj
    have HT' := Lib.hid ht'
    obtain ⟨i5, hi5⟩ : ∃ i5, (if hasB t' er' [41] then i' + 1 else i') = i5 := ⟨_, rfl⟩
    obtain ⟨er5, her5⟩ : ∃ er5, mustE t' er' [41] = er5 := ⟨_, rfl⟩
    rw [hi5, her5] at MU
    have HI5 := Lib.hid hi5
    have HER5 := Lib.hid her5
    clear hpj ht' hi5 her5 hbk P5 H4 K4 X4 KW K45
    go_wp2_with fail
    refine MU.out.mono ?_
    rintro e W6 ⟨rfl, p6, k6⟩
    have x6 := X5.out.kept k6 (by omega)
    have B76 := B7.out.kept k6 (by omega)
    have v0 : W6.cell? ⟨w4.heap.size, 0, none⟩ = some (.int .i64 op) := B76.cell 0
    have v1 : W6.cell? ⟨w4.heap.size, 1, none⟩ = some (.int .i64 N) := B76.cell 1
    have v2 : W6.cell? ⟨w4.heap.size, 2, none⟩ = some (.string nm) := B76.cell 2
    have v3 : W6.cell? ⟨w4.heap.size, 3, none⟩ = some (.slice B l k) := B76.cell 3
    have P6 := Lib.hid p6
    have K6 := Lib.hid k6
    clear p6 k6 MU
    have s0 : W6.cell? ⟨w.heap.size, 0, none⟩ = some (.int .i64 0) := x6.cell 0
    have t0 := x6.frozen 0
    have s1 : W6.cell? ⟨w.heap.size, 1, none⟩ = some (.int .i64 0) := x6.cell 1
    have t1 := x6.frozen 1
    have s2 : W6.cell? ⟨w.heap.size, 2, none⟩ = some (.string ⟨#[]⟩) := x6.cell 2
    have t2 := x6.frozen 2
    have s3 : W6.cell? ⟨w.heap.size, 3, none⟩ = some (.slice none 0 0) := x6.cell 3
    have t3 := x6.frozen 3
    go_wp2_with fail
    clear s0 s1 s2 s3
    have X9 := (x6).put4 (.int .i64 op) (.int .i64 N) (.string nm) (.slice B l k)
    have K9 := Kept.put4 W6 w.heap.size (.int .i64 op) (.int .i64 N) (.string nm) (.slice B l k)
    generalize (((W6.setCell ⟨w.heap.size, 0, none⟩ (.int .i64 op)).setCell ⟨w.heap.size, 1, none⟩ (.int .i64 N)).setCell ⟨w.heap.size, 2, none⟩ (.string nm)).setCell ⟨w.heap.size, 3, none⟩ (.slice B l k) = W9 at *
    have s0 : W9.cell? ⟨w.heap.size, 0, none⟩ = some (.int .i64 op) := X9.cell 0
    have s1 : W9.cell? ⟨w.heap.size, 1, none⟩ = some (.int .i64 N) := X9.cell 1
    have s2 : W9.cell? ⟨w.heap.size, 2, none⟩ = some (.string nm) := X9.cell 2
    have s3 : W9.cell? ⟨w.heap.size, 3, none⟩ = some (.slice B l k) := X9.cell 3
    have KK : Kept (fun z => z = g) w W9 := (KW5.out.then_ K6.out (fun _ _ e => e)).then_ K9 (fun z hz e => by omega)
    refine bodyPost_ret (v := .agg #[.int .i64 op, .int .i64 N, .string nm, .slice B l k]) (by simp [results, Tryz.results112, go_sem, s0, s1, s2, s3]) rfl ⟨_, _, _, _, _, _, rfl, KK, ?_⟩
    rw [HR.out]
    have K69 : Kept (fun z => z = g ∨ z = w.heap.size) W5 W9 := (K6.out.mono (T := fun z => z = g ∨ z = w.heap.size) (fun _ _ e => .inl e)).then_ K9 (fun _ _ e => .inr e)
    refine ExAt.must id HPJ.out HT'.out (by rw [HI5.out]; exact P6.out.at_) (by rw [HI5.out, HER5.out]; exact P6.out.blk.kept K9 (by omega)) (fun y hy => (hy.kept K69 (fun z hz e => by rcases e with e | e <;> omega)).mono (fun z _ hz => by omega))
end Go.Proofs.YtdgekckedchjbaaGreatDoor
namespace Go.Proofs.YtdgekckedchjbaaGreatDoor
open Go.RowKit

set_option maxHeartbeats 4000000 in
set_option maxRecDepth 100000 in
theorem plain_neg (g c : Nat) (A : Option Addr) (m : Nat → Nat) (ts : List Tk) (dp : Int) (d : Nat) (PC : PlainC g c A m ts dp d) (JC : JoinC g c A m ts dp d 5) (deep : Int) (i : Nat) (w : World) (hd : deep + ((d + 1 : Nat) : Int) = 16) (h0 : 0 ≤ deep) (h : Par w g A c m ts i dp 0) (t : Tk) (ht : ts[i]? = some t) (hb : openB t 0 = true) (hn2 : t.kind ≠ 2) (hn1 : t.kind ≠ 1) (hx : t.text = [45]) : Calls Tryz.prog 112 #[.pointer (some ⟨g, 0, none⟩), .int .i64 deep] w (ExTo w g c A m ts dp (plainD (d + 1) (ts.drop i))) := by
  have hdh := And.intro hd h0
  clear hdh
  have PC := Lib.hid PC
  have JC := Lib.hid JC
  have H_hn2 := Lib.hid hn2
  clear hn2
  have H_hn1 := Lib.hid hn1
  clear hn1
  have H_hx := Lib.hid hx
  clear hx
  have f0 : Below w.heap.size w (w.alloc (.cells #[.int .i64 0, .int .i64 0, .string ⟨#[]⟩, .slice none 0 0] 40)) := (Below.refl _ w).al _
  have x0 := Blk.new w 40 #[.int .i64 0, .int .i64 0, .string ⟨#[]⟩, .slice none 0 0]
  have H0 := h.below f0
  have OP := Lib.hid (opens_any g c A m ts i dp 0 _ H0 t ht)
  have WR := Lib.hid (fun w' (h' : Par w' g A c m ts i dp 0) => wrong_any g c A m ts i dp 0 w' h' t ht)
  have hgl := h.blk.lt
  have HT := Lib.hid (drop_tok ht)
  obtain ⟨p, hp⟩ : ∃ p, plainD (d + 1) (ts.drop i) = p := ⟨_, rfl⟩
  rw [hp]
  rw [HT.out] at hp
  have HP := Lib.hid hp
  have HB : Hid (openB t 0 = openT (t :: ts.drop (i + 1))) := openB_T
  rw [hb] at OP HB
  have hi := h.at_
  have lim := h.st.lim
  have HH := Lib.hid h
  have HH0 := Lib.hid H0
  have F0 := Lib.hid f0
  have X0 := Lib.hid x0
  have HTT := Lib.hid ht
  have z0 := f0.size
  clear h H0 f0 x0 hp hb ht
  go_enter Tryz.func112, Tryz.ntmps112
  go_wp2_with fail
  generalize w.alloc (.cells #[.int .i64 0, .int .i64 0, .string ⟨#[]⟩, .slice none 0 0] 40) = W0 at *
  refine OP.out.mono ?_
  rintro e w1 ⟨rfl, q, rfl⟩
  clear OP
  have hdd : deep < 16 := by omega
  go_upto_region 7 with fail
  have P1 := Lib.hid (HH0.out.drewN q)
  have X1 := Lib.hid (X0.out.drewN q)
  have K1 := Lib.hid ((Kept.of_below (S := fun z => z = g) F0.out).then_ ((Kept.refl (fun z => z = g) W0).drewN q) (fun _ _ e => e))
  have zz : w.heap.size < (W0.drewN q).heap.size := X0.out.lt
  generalize W0.drewN q = W1 at *
  have hkn : t.kind ≠ 0 := open_kind HB.out.symm
  have TK : Hid (∀ W, Par W g A c m ts i dp 0 → Calls Tryz.prog 87 #[.pointer (some ⟨g, 0, none⟩), .int .i64 t.kind] W (ParTo W g c A m ts dp (tkVal t) (i + 1) 0)) := fun W hW => by
    have h1 := take_any g c A m ts i dp 0 t.kind W hW t HTT.out hkn
    have h2 : nextB t 0 t.kind = true := by simp [nextB]
    rw [if_pos h2, if_pos h2, if_pos h2] at h1
    exact h1
  have hi1 : i + 1 < ts.length := HH.out.st.more HTT.out (.inl hkn)
  have HI1 := Lib.hid hi1
  clear WR HH0 X0 F0 z0
  obtain ⟨b, o, hA, hb, hbg, q0, -, -, -, -⟩ := P1.out.st.tok HTT.out
  have hAh := Lib.hid hA
  obtain ⟨n, hn⟩ : ∃ n, ts.length = n := ⟨_, rfl⟩
  have HN := Lib.hid hn
  have B := P1.out.blk
  unfold parCells at B
  rw [hA, hn] at B
  rw [hn] at hi hi1 lim
  have g1 : (0 : Int) ≤ (i : Int) := by omega
  have g2 : (i : Int) < (n : Int) := by omega
  have hgz := B.lt
  have c0 : W1.cell? ⟨g, 0, none⟩ = some (.slice (some ⟨b, o, none⟩) n c) := B.cell 0
  have c1 : W1.cell? ⟨g, 1, none⟩ = some (.int .i64 i) := B.cell 1
  have BA := B.alloc (.cells #[.int .i64 0, .string ⟨#[]⟩, .int .i64 0, .int .i64 0, .int .i64 0] 122)
  have a0 : (W1.alloc (.cells #[.int .i64 0, .string ⟨#[]⟩, .int .i64 0, .int .i64 0, .int .i64 0] 122)).cell? ⟨g, 0, none⟩ = some (.slice (some ⟨b, o, none⟩) n c) := BA.cell 0
  have a1 : (W1.alloc (.cells #[.int .i64 0, .string ⟨#[]⟩, .int .i64 0, .int .i64 0, .int .i64 0] 122)).cell? ⟨g, 1, none⟩ = some (.int .i64 i) := BA.cell 1
  have a2 : (W1.alloc (.cells #[.int .i64 0, .string ⟨#[]⟩, .int .i64 0, .int .i64 0, .int .i64 0] 122)).cell? ⟨b, o + i * 5, none⟩ = some (.int .i64 t.kind) := (World.cell?_alloc_lt _ _ _ hb).trans q0
  have fa : Below W1.heap.size W1 (W1.alloc (.cells #[.int .i64 0, .string ⟨#[]⟩, .int .i64 0, .int .i64 0, .int .i64 0] 122)).drew := ((Below.refl _ W1).al _).drew
  have PA := Lib.hid (P1.out.below fa)
  have PD := Lib.hid (P1.out.below (Below.refl _ W1).drew)
  have XA := Lib.hid (Blk.new W1 122 #[.int .i64 0, .string ⟨#[]⟩, .int .i64 0, .int .i64 0, .int .i64 0]).drew
  have FA := Lib.hid fa
  clear B BA hA hn fa
  go_cut [5] (fun v wc => ∃ g5, v = .pointer (some ⟨g5, 0, none⟩) ∧ Hid (Blk wc g5 122 #[.int .i64 t.kind, .string (str t.text), .int .i64 t.n, .int .i64 t.line, .int .i64 t.col]) ∧ Hid (Par wc g A c m ts (i + 1) dp 0) ∧ Hid (Kept (fun z => z = g) W1 wc) ∧ Hid (W1.heap.size ≤ g5))
  case first =>
    go_region_with (first
      | (go_at_call 87; (with_reducible refine (TK.out _ PD.out).mono ?_); rintro e w4 ⟨rfl, p4, k4⟩; unfold tkVal)
      | (go_at_call 87; (with_reducible refine (TK.out _ PA.out).mono ?_); rintro e w4 ⟨rfl, p4, k4⟩; unfold tkVal; have n4 := XA.out.kept k4 (by omega); have y0 : w4.cell? ⟨W1.heap.size, 0, none⟩ = some (.int .i64 0) := n4.cell 0; have y1 : w4.cell? ⟨W1.heap.size, 1, none⟩ = some (.string ⟨#[]⟩) := n4.cell 1; have y2 : w4.cell? ⟨W1.heap.size, 2, none⟩ = some (.int .i64 0) := n4.cell 2; have y3 : w4.cell? ⟨W1.heap.size, 3, none⟩ = some (.int .i64 0) := n4.cell 3; have y4 : w4.cell? ⟨W1.heap.size, 4, none⟩ = some (.int .i64 0) := n4.cell 4; have j0 := n4.frozen 0; have j1 := n4.frozen 1; have j2 := n4.frozen 2; have j3 := n4.frozen 3; have j4 := n4.frozen 4))
    all_goals
      go_wp2_with fail
      go_meet
      case rel => first
        | (with_reducible refine ⟨w4.heap.size, rfl, ?_⟩); exact ⟨Blk.new _ _ _, p4.below ((Below.refl _ w4).al _), ((((Kept.refl (fun z => z = g) W1).drew).then_ k4 (fun _ _ e => e)).alloc _), k4.size⟩
        | (with_reducible refine ⟨W1.heap.size, rfl, ?_⟩); exact ⟨n4.put5 _ _ _ _ _, P1.out.put HI1.out (p4.blk.kept (Kept.put5 w4 W1.heap.size _ _ _ _ _) (by omega)) (((Kept.of_below (S := fun z => z = g) FA.out).then_ k4 (fun _ _ e => e)).then_ (Kept.put5 w4 W1.heap.size _ _ _ _ _) (fun z hz e => by omega)), ((Kept.of_below (S := fun z => z = g) FA.out).then_ k4 (fun _ _ e => e)).then_ (Kept.put5 w4 W1.heap.size _ _ _ _ _) (fun z hz e => by omega), Nat.le_refl _⟩
  case rest =>
    obtain ⟨g5, rfl, B5, P2, K2, hg5⟩ := hcut
    obtain ⟨W2, rfl⟩ : ∃ x, x = wc := ⟨_, rfl⟩
    have X2 := Lib.hid (X1.out.kept K2.out (by omega))
    have zz2 : W1.heap.size ≤ W2.heap.size := K2.out.size
    have hg5' : W1.heap.size ≤ g5 := hg5.out
    have hg52 : g5 < W2.heap.size := B5.out.lt
    have KW := Lib.hid (K1.out.then_ K2.out (fun _ _ e => e))
    clear TK PA PD XA FA a0 a1 a2 c0 c1 q0 K1 K2 X1 P1 hb hbg hg5
    have u0 : W2.cell? ⟨g5, 0, none⟩ = some (.int .i64 t.kind) := B5.out.cell 0
    have u1 : W2.cell? ⟨g5, 1, none⟩ = some (.string (str t.text)) := B5.out.cell 1
    have u2 : W2.cell? ⟨g5, 2, none⟩ = some (.int .i64 t.n) := B5.out.cell 2
    have hn2 := H_hn2.out
    have hn1 := H_hn1.out
    have hx := H_hx.out
    have hk2' : (t.kind == 2) = false := by simp [hn2]
    have hk1' : (t.kind == 1) = false := by simp [hn1]
    have HR : Hid (p = (plainD d (ts.drop (i + 1))).wrap .neg) := HP.out.symm.trans (plainD_neg HB.out.symm hn2 hn1 (by rw [hx]; decide) hx)
    have PW : Hid (∀ W, Par W g A c m ts (i + 1) dp 0 → Calls Tryz.prog 112 #[.pointer (some ⟨g, 0, none⟩), .int .i64 (deep + 1)] W (ExTo W g c A m ts dp (plainD d (ts.drop (i + 1))))) := fun W hW => PC.out (deep + 1) (i + 1) W (by omega) (by omega) hW
    generalize plainD d (ts.drop (i + 1)) = pj at *
    have hwd : IntKind.i64.wrap (deep + 1) = deep + 1 := IntWalk.i64_in _ ⟨by omega, by omega⟩
    rw [hx] at u1
    change W2.cell? ⟨g5, 1, none⟩ = some (.string ⟨#[45]⟩) at u1
    clear PC JC
    go_upto_region 21 with fail
    clear u0 u1 u2 hk2' hk1' hx hn2 hn1
    go_wp2_with fail
    refine (PW.out _ P2.out).mono ?_
    rintro e w4 ⟨op, N, nm, B, l, k, rfl, k4, h4⟩
    have x4 := (X2.out.kept k4 (by omega)).alloc (.cells #[.int .i64 op, .int .i64 N, .string nm, .slice B l k] 40)
    have zz4 := k4.size
    have hgw := P2.out.blk.lt
    have K4 := Lib.hid (k4.alloc (.cells #[.int .i64 op, .int .i64 N, .string nm, .slice B l k] 40))
    have N4 := Lib.hid (Blk.new w4 40 #[.int .i64 op, .int .i64 N, .string nm, .slice B l k])
    have H4 := Lib.hid (h4.kept_lt (S := fun _ => False) ((Kept.refl _ w4).alloc (.cells #[.int .i64 op, .int .i64 N, .string nm, .slice B l k] 40)) (fun h => h) (fun _ _ _ h => h))
    have s0 : (w4.alloc (.cells #[.int .i64 op, .int .i64 N, .string nm, .slice B l k] 40)).cell? ⟨w.heap.size, 0, none⟩ = some (.int .i64 0) := x4.cell 0
    have t0 := x4.frozen 0
    have s1 : (w4.alloc (.cells #[.int .i64 op, .int .i64 N, .string nm, .slice B l k] 40)).cell? ⟨w.heap.size, 1, none⟩ = some (.int .i64 0) := x4.cell 1
    have t1 := x4.frozen 1
    have s2 : (w4.alloc (.cells #[.int .i64 op, .int .i64 N, .string nm, .slice B l k] 40)).cell? ⟨w.heap.size, 2, none⟩ = some (.string ⟨#[]⟩) := x4.cell 2
    have t2 := x4.frozen 2
    have s3 : (w4.alloc (.cells #[.int .i64 op, .int .i64 N, .string nm, .slice B l k] 40)).cell? ⟨w.heap.size, 3, none⟩ = some (.slice none 0 0) := x4.cell 3
    have t3 := x4.frozen 3
    clear k4 h4 PW hwd
    go_wp2_with fail
    generalize w4.alloc (.cells #[.int .i64 op, .int .i64 N, .string nm, .slice B l k] 40) = W4 at *
    clear s0 s1 s2 s3
    have hn4 := N4.out.lt
    obtain ⟨i', er', hi', hbk, hpj⟩ := H4.out
    have X9 := (x4).put4 (.int .i64 3) (.int .i64 0) (.string ⟨#[]⟩) (.slice (some ⟨w4.heap.size, 0, none⟩) 1 1)
    have K9 := Kept.put4 W4 w.heap.size (.int .i64 3) (.int .i64 0) (.string ⟨#[]⟩) (.slice (some ⟨w4.heap.size, 0, none⟩) 1 1)
    generalize (((W4.setCell ⟨w.heap.size, 0, none⟩ (.int .i64 3)).setCell ⟨w.heap.size, 1, none⟩ (.int .i64 0)).setCell ⟨w.heap.size, 2, none⟩ (.string ⟨#[]⟩)).setCell ⟨w.heap.size, 3, none⟩ (.slice (some ⟨w4.heap.size, 0, none⟩) 1 1) = W9 at *
    have s0 : W9.cell? ⟨w.heap.size, 0, none⟩ = some (.int .i64 3) := X9.cell 0
    have s1 : W9.cell? ⟨w.heap.size, 1, none⟩ = some (.int .i64 0) := X9.cell 1
    have s2 : W9.cell? ⟨w.heap.size, 2, none⟩ = some (.string ⟨#[]⟩) := X9.cell 2
    have s3 : W9.cell? ⟨w.heap.size, 3, none⟩ = some (.slice (some ⟨w4.heap.size, 0, none⟩) 1 1) := X9.cell 3
    have KK : Kept (fun z => z = g) w W9 := (KW.out.then_ K4.out (fun _ _ e => e)).then_ K9 (fun z hz e => by omega)
    refine bodyPost_ret (v := .agg #[.int .i64 3, .int .i64 0, .string ⟨#[]⟩, .slice (some ⟨w4.heap.size, 0, none⟩) 1 1]) (by simp [results, Tryz.results112, go_sem, s0, s1, s2, s3]) rfl ⟨_, _, _, _, _, _, rfl, KK, ?_⟩
    rw [HR.out]
    refine ExAt.wrap .neg hpj hi' (hbk.kept K9 (by omega)) (fun y hy => ⟨w4.heap.size, _, rfl, by omega, N4.out.kept K9 (by omega), (hy.kept K9 (fun z hz e => by omega)).mono (fun z _ hz => by omega)⟩)
end Go.Proofs.YtdgekckedchjbaaGreatDoor
namespace Go.Proofs.YtdgekckedchjbaaGreatDoor
open Go.RowKit

set_option maxHeartbeats 4000000 in
set_option maxRecDepth 100000 in
theorem plain_non (g c : Nat) (A : Option Addr) (m : Nat → Nat) (ts : List Tk) (dp : Int) (d : Nat) (PC : PlainC g c A m ts dp d) (JC : JoinC g c A m ts dp d 5) (deep : Int) (i : Nat) (w : World) (hd : deep + ((d + 1 : Nat) : Int) = 16) (h0 : 0 ≤ deep) (h : Par w g A c m ts i dp 0) (t : Tk) (ht : ts[i]? = some t) (hb : openB t 0 = true) (hn2 : t.kind ≠ 2) (hn1 : t.kind ≠ 1) (hx : t.text = [110, 111, 116]) : Calls Tryz.prog 112 #[.pointer (some ⟨g, 0, none⟩), .int .i64 deep] w (ExTo w g c A m ts dp (plainD (d + 1) (ts.drop i))) := by
  have hdh := And.intro hd h0
  clear hdh
  have PC := Lib.hid PC
  have JC := Lib.hid JC
  have H_hn2 := Lib.hid hn2
  clear hn2
  have H_hn1 := Lib.hid hn1
  clear hn1
  have H_hx := Lib.hid hx
  clear hx
  have f0 : Below w.heap.size w (w.alloc (.cells #[.int .i64 0, .int .i64 0, .string ⟨#[]⟩, .slice none 0 0] 40)) := (Below.refl _ w).al _
  have x0 := Blk.new w 40 #[.int .i64 0, .int .i64 0, .string ⟨#[]⟩, .slice none 0 0]
  have H0 := h.below f0
  have OP := Lib.hid (opens_any g c A m ts i dp 0 _ H0 t ht)
  have WR := Lib.hid (fun w' (h' : Par w' g A c m ts i dp 0) => wrong_any g c A m ts i dp 0 w' h' t ht)
  have hgl := h.blk.lt
  have HT := Lib.hid (drop_tok ht)
  obtain ⟨p, hp⟩ : ∃ p, plainD (d + 1) (ts.drop i) = p := ⟨_, rfl⟩
  rw [hp]
  rw [HT.out] at hp
  have HP := Lib.hid hp
  have HB : Hid (openB t 0 = openT (t :: ts.drop (i + 1))) := openB_T
  rw [hb] at OP HB
  have hi := h.at_
  have lim := h.st.lim
  have HH := Lib.hid h
  have HH0 := Lib.hid H0
  have F0 := Lib.hid f0
  have X0 := Lib.hid x0
  have HTT := Lib.hid ht
  have z0 := f0.size
  clear h H0 f0 x0 hp hb ht
  go_enter Tryz.func112, Tryz.ntmps112
  go_wp2_with fail
  generalize w.alloc (.cells #[.int .i64 0, .int .i64 0, .string ⟨#[]⟩, .slice none 0 0] 40) = W0 at *
  refine OP.out.mono ?_
  rintro e w1 ⟨rfl, q, rfl⟩
  clear OP
  have hdd : deep < 16 := by omega
  go_upto_region 7 with fail
  have P1 := Lib.hid (HH0.out.drewN q)
  have X1 := Lib.hid (X0.out.drewN q)
  have K1 := Lib.hid ((Kept.of_below (S := fun z => z = g) F0.out).then_ ((Kept.refl (fun z => z = g) W0).drewN q) (fun _ _ e => e))
  have zz : w.heap.size < (W0.drewN q).heap.size := X0.out.lt
  generalize W0.drewN q = W1 at *
  have hkn : t.kind ≠ 0 := open_kind HB.out.symm
  have TK : Hid (∀ W, Par W g A c m ts i dp 0 → Calls Tryz.prog 87 #[.pointer (some ⟨g, 0, none⟩), .int .i64 t.kind] W (ParTo W g c A m ts dp (tkVal t) (i + 1) 0)) := fun W hW => by
    have h1 := take_any g c A m ts i dp 0 t.kind W hW t HTT.out hkn
    have h2 : nextB t 0 t.kind = true := by simp [nextB]
    rw [if_pos h2, if_pos h2, if_pos h2] at h1
    exact h1
  have hi1 : i + 1 < ts.length := HH.out.st.more HTT.out (.inl hkn)
  have HI1 := Lib.hid hi1
  clear WR HH0 X0 F0 z0
  obtain ⟨b, o, hA, hb, hbg, q0, -, -, -, -⟩ := P1.out.st.tok HTT.out
  have hAh := Lib.hid hA
  obtain ⟨n, hn⟩ : ∃ n, ts.length = n := ⟨_, rfl⟩
  have HN := Lib.hid hn
  have B := P1.out.blk
  unfold parCells at B
  rw [hA, hn] at B
  rw [hn] at hi hi1 lim
  have g1 : (0 : Int) ≤ (i : Int) := by omega
  have g2 : (i : Int) < (n : Int) := by omega
  have hgz := B.lt
  have c0 : W1.cell? ⟨g, 0, none⟩ = some (.slice (some ⟨b, o, none⟩) n c) := B.cell 0
  have c1 : W1.cell? ⟨g, 1, none⟩ = some (.int .i64 i) := B.cell 1
  have BA := B.alloc (.cells #[.int .i64 0, .string ⟨#[]⟩, .int .i64 0, .int .i64 0, .int .i64 0] 122)
  have a0 : (W1.alloc (.cells #[.int .i64 0, .string ⟨#[]⟩, .int .i64 0, .int .i64 0, .int .i64 0] 122)).cell? ⟨g, 0, none⟩ = some (.slice (some ⟨b, o, none⟩) n c) := BA.cell 0
  have a1 : (W1.alloc (.cells #[.int .i64 0, .string ⟨#[]⟩, .int .i64 0, .int .i64 0, .int .i64 0] 122)).cell? ⟨g, 1, none⟩ = some (.int .i64 i) := BA.cell 1
  have a2 : (W1.alloc (.cells #[.int .i64 0, .string ⟨#[]⟩, .int .i64 0, .int .i64 0, .int .i64 0] 122)).cell? ⟨b, o + i * 5, none⟩ = some (.int .i64 t.kind) := (World.cell?_alloc_lt _ _ _ hb).trans q0
  have fa : Below W1.heap.size W1 (W1.alloc (.cells #[.int .i64 0, .string ⟨#[]⟩, .int .i64 0, .int .i64 0, .int .i64 0] 122)).drew := ((Below.refl _ W1).al _).drew
  have PA := Lib.hid (P1.out.below fa)
  have PD := Lib.hid (P1.out.below (Below.refl _ W1).drew)
  have XA := Lib.hid (Blk.new W1 122 #[.int .i64 0, .string ⟨#[]⟩, .int .i64 0, .int .i64 0, .int .i64 0]).drew
  have FA := Lib.hid fa
  clear B BA hA hn fa
  go_cut [5] (fun v wc => ∃ g5, v = .pointer (some ⟨g5, 0, none⟩) ∧ Hid (Blk wc g5 122 #[.int .i64 t.kind, .string (str t.text), .int .i64 t.n, .int .i64 t.line, .int .i64 t.col]) ∧ Hid (Par wc g A c m ts (i + 1) dp 0) ∧ Hid (Kept (fun z => z = g) W1 wc) ∧ Hid (W1.heap.size ≤ g5))
  case first =>
    go_region_with (first
      | (go_at_call 87; (with_reducible refine (TK.out _ PD.out).mono ?_); rintro e w4 ⟨rfl, p4, k4⟩; unfold tkVal)
      | (go_at_call 87; (with_reducible refine (TK.out _ PA.out).mono ?_); rintro e w4 ⟨rfl, p4, k4⟩; unfold tkVal; have n4 := XA.out.kept k4 (by omega); have y0 : w4.cell? ⟨W1.heap.size, 0, none⟩ = some (.int .i64 0) := n4.cell 0; have y1 : w4.cell? ⟨W1.heap.size, 1, none⟩ = some (.string ⟨#[]⟩) := n4.cell 1; have y2 : w4.cell? ⟨W1.heap.size, 2, none⟩ = some (.int .i64 0) := n4.cell 2; have y3 : w4.cell? ⟨W1.heap.size, 3, none⟩ = some (.int .i64 0) := n4.cell 3; have y4 : w4.cell? ⟨W1.heap.size, 4, none⟩ = some (.int .i64 0) := n4.cell 4; have j0 := n4.frozen 0; have j1 := n4.frozen 1; have j2 := n4.frozen 2; have j3 := n4.frozen 3; have j4 := n4.frozen 4))
    all_goals
      go_wp2_with fail
      go_meet
      case rel => first
        | (with_reducible refine ⟨w4.heap.size, rfl, ?_⟩); exact ⟨Blk.new _ _ _, p4.below ((Below.refl _ w4).al _), ((((Kept.refl (fun z => z = g) W1).drew).then_ k4 (fun _ _ e => e)).alloc _), k4.size⟩
        | (with_reducible refine ⟨W1.heap.size, rfl, ?_⟩); exact ⟨n4.put5 _ _ _ _ _, P1.out.put HI1.out (p4.blk.kept (Kept.put5 w4 W1.heap.size _ _ _ _ _) (by omega)) (((Kept.of_below (S := fun z => z = g) FA.out).then_ k4 (fun _ _ e => e)).then_ (Kept.put5 w4 W1.heap.size _ _ _ _ _) (fun z hz e => by omega)), ((Kept.of_below (S := fun z => z = g) FA.out).then_ k4 (fun _ _ e => e)).then_ (Kept.put5 w4 W1.heap.size _ _ _ _ _) (fun z hz e => by omega), Nat.le_refl _⟩
  case rest =>
    obtain ⟨g5, rfl, B5, P2, K2, hg5⟩ := hcut
    obtain ⟨W2, rfl⟩ : ∃ x, x = wc := ⟨_, rfl⟩
    have X2 := Lib.hid (X1.out.kept K2.out (by omega))
    have zz2 : W1.heap.size ≤ W2.heap.size := K2.out.size
    have hg5' : W1.heap.size ≤ g5 := hg5.out
    have hg52 : g5 < W2.heap.size := B5.out.lt
    have KW := Lib.hid (K1.out.then_ K2.out (fun _ _ e => e))
    clear TK PA PD XA FA a0 a1 a2 c0 c1 q0 K1 K2 X1 P1 hb hbg hg5
    have u0 : W2.cell? ⟨g5, 0, none⟩ = some (.int .i64 t.kind) := B5.out.cell 0
    have u1 : W2.cell? ⟨g5, 1, none⟩ = some (.string (str t.text)) := B5.out.cell 1
    have u2 : W2.cell? ⟨g5, 2, none⟩ = some (.int .i64 t.n) := B5.out.cell 2
    have hn2 := H_hn2.out
    have hn1 := H_hn1.out
    have hx := H_hx.out
    have hk2' : (t.kind == 2) = false := by simp [hn2]
    have hk1' : (t.kind == 1) = false := by simp [hn1]
    have HR : Hid (p = (plainD d (ts.drop (i + 1))).wrap .non) := HP.out.symm.trans (plainD_non HB.out.symm hn2 hn1 (by rw [hx]; decide) (by rw [hx]; decide))
    have PW : Hid (∀ W, Par W g A c m ts (i + 1) dp 0 → Calls Tryz.prog 112 #[.pointer (some ⟨g, 0, none⟩), .int .i64 (deep + 1)] W (ExTo W g c A m ts dp (plainD d (ts.drop (i + 1))))) := fun W hW => PC.out (deep + 1) (i + 1) W (by omega) (by omega) hW
    generalize plainD d (ts.drop (i + 1)) = pj at *
    have hwd : IntKind.i64.wrap (deep + 1) = deep + 1 := IntWalk.i64_in _ ⟨by omega, by omega⟩
    rw [hx] at u1
    change W2.cell? ⟨g5, 1, none⟩ = some (.string ⟨#[110, 111, 116]⟩) at u1
    clear PC JC
    go_upto_region 22 with fail
    clear u0 u1 u2 hk2' hk1' hx hn2 hn1
    go_wp2_with fail
    refine (PW.out _ P2.out).mono ?_
    rintro e w4 ⟨op, N, nm, B, l, k, rfl, k4, h4⟩
    have x4 := (X2.out.kept k4 (by omega)).alloc (.cells #[.int .i64 op, .int .i64 N, .string nm, .slice B l k] 40)
    have zz4 := k4.size
    have hgw := P2.out.blk.lt
    have K4 := Lib.hid (k4.alloc (.cells #[.int .i64 op, .int .i64 N, .string nm, .slice B l k] 40))
    have N4 := Lib.hid (Blk.new w4 40 #[.int .i64 op, .int .i64 N, .string nm, .slice B l k])
    have H4 := Lib.hid (h4.kept_lt (S := fun _ => False) ((Kept.refl _ w4).alloc (.cells #[.int .i64 op, .int .i64 N, .string nm, .slice B l k] 40)) (fun h => h) (fun _ _ _ h => h))
    have s0 : (w4.alloc (.cells #[.int .i64 op, .int .i64 N, .string nm, .slice B l k] 40)).cell? ⟨w.heap.size, 0, none⟩ = some (.int .i64 0) := x4.cell 0
    have t0 := x4.frozen 0
    have s1 : (w4.alloc (.cells #[.int .i64 op, .int .i64 N, .string nm, .slice B l k] 40)).cell? ⟨w.heap.size, 1, none⟩ = some (.int .i64 0) := x4.cell 1
    have t1 := x4.frozen 1
    have s2 : (w4.alloc (.cells #[.int .i64 op, .int .i64 N, .string nm, .slice B l k] 40)).cell? ⟨w.heap.size, 2, none⟩ = some (.string ⟨#[]⟩) := x4.cell 2
    have t2 := x4.frozen 2
    have s3 : (w4.alloc (.cells #[.int .i64 op, .int .i64 N, .string nm, .slice B l k] 40)).cell? ⟨w.heap.size, 3, none⟩ = some (.slice none 0 0) := x4.cell 3
    have t3 := x4.frozen 3
    clear k4 h4 PW hwd
    go_wp2_with fail
    generalize w4.alloc (.cells #[.int .i64 op, .int .i64 N, .string nm, .slice B l k] 40) = W4 at *
    clear s0 s1 s2 s3
    have hn4 := N4.out.lt
    obtain ⟨i', er', hi', hbk, hpj⟩ := H4.out
    have X9 := (x4).put4 (.int .i64 4) (.int .i64 0) (.string ⟨#[]⟩) (.slice (some ⟨w4.heap.size, 0, none⟩) 1 1)
    have K9 := Kept.put4 W4 w.heap.size (.int .i64 4) (.int .i64 0) (.string ⟨#[]⟩) (.slice (some ⟨w4.heap.size, 0, none⟩) 1 1)
    generalize (((W4.setCell ⟨w.heap.size, 0, none⟩ (.int .i64 4)).setCell ⟨w.heap.size, 1, none⟩ (.int .i64 0)).setCell ⟨w.heap.size, 2, none⟩ (.string ⟨#[]⟩)).setCell ⟨w.heap.size, 3, none⟩ (.slice (some ⟨w4.heap.size, 0, none⟩) 1 1) = W9 at *
    have s0 : W9.cell? ⟨w.heap.size, 0, none⟩ = some (.int .i64 4) := X9.cell 0
    have s1 : W9.cell? ⟨w.heap.size, 1, none⟩ = some (.int .i64 0) := X9.cell 1
    have s2 : W9.cell? ⟨w.heap.size, 2, none⟩ = some (.string ⟨#[]⟩) := X9.cell 2
    have s3 : W9.cell? ⟨w.heap.size, 3, none⟩ = some (.slice (some ⟨w4.heap.size, 0, none⟩) 1 1) := X9.cell 3
    have KK : Kept (fun z => z = g) w W9 := (KW.out.then_ K4.out (fun _ _ e => e)).then_ K9 (fun z hz e => by omega)
    refine bodyPost_ret (v := .agg #[.int .i64 4, .int .i64 0, .string ⟨#[]⟩, .slice (some ⟨w4.heap.size, 0, none⟩) 1 1]) (by simp [results, Tryz.results112, go_sem, s0, s1, s2, s3]) rfl ⟨_, _, _, _, _, _, rfl, KK, ?_⟩
    rw [HR.out]
    refine ExAt.wrap .non hpj hi' (hbk.kept K9 (by omega)) (fun y hy => ⟨w4.heap.size, _, rfl, by omega, N4.out.kept K9 (by omega), (hy.kept K9 (fun z hz e => by omega)).mono (fun z _ hz => by omega)⟩)
end Go.Proofs.YtdgekckedchjbaaGreatDoor
namespace Go.Proofs.YtdgekckedchjbaaGreatDoor
open Go.RowKit

theorem plain_any (g c : Nat) (A : Option Addr) (m : Nat → Nat) (ts : List Tk) (dp : Int) (d : Nat) (H : ∀ q, d = q + 1 → PlainC g c A m ts dp q ∧ JoinC g c A m ts dp q 5) : PlainC g c A m ts dp d := by
  intro deep i w hd h0 h
  obtain ⟨t, ht⟩ := ParS.at_some h.at_
  cases hb : openB t 0 with
  | false => exact plain_shut g c A m ts dp d deep i w hd h0 h t ht hb
  | true =>
    rcases d with _ | d
    · exact plain_deep0 g c A m ts dp deep i w hd h0 h t ht hb
    · obtain ⟨PC, JC⟩ := H d rfl
      by_cases h2 : t.kind = 2
      · exact plain_num g c A m ts dp d PC JC deep i w hd h0 h t ht hb h2
      · by_cases h1 : t.kind = 1
        · cases h91 : hasT [91] (ts.drop (i + 1)) with
          | false => exact plain_nam g c A m ts dp d PC JC deep i w hd h0 h t ht hb h1 h91
          | true => exact plain_idx g c A m ts dp d PC JC deep i w hd h0 h t ht hb h1 h91
        · rcases open_text (r := []) (by rw [← openB_T]; exact hb) h2 h1 with e | e | e
          · exact plain_par g c A m ts dp d PC JC deep i w hd h0 h t ht hb h2 h1 e
          · exact plain_neg g c A m ts dp d PC JC deep i w hd h0 h t ht hb h2 h1 e
          · exact plain_non g c A m ts dp d PC JC deep i w hd h0 h t ht hb h2 h1 e
end Go.Proofs.YtdgekckedchjbaaGreatDoor
