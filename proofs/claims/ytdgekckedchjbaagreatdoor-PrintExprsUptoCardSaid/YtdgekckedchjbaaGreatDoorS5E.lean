
/-
  The parser's plain: parentheses. (Printed by wip/tools/gens5.py.)
-/
import Derived.Test.YtdgekckedchjbaaGreatDoorS5A
import Derived.Deep.RegionHeld3
import Derived.Deep.DeepCutAuto
namespace Go.Proofs.YtdgekckedchjbaaGreatDoor
open Go.RowKit

set_option maxHeartbeats 4000000 in
set_option maxRecDepth 100000 in
theorem plain_par (g c : Nat) (A : Option Addr) (m : Nat → Nat) (ts : List Tk) (dp : Int) (d : Nat) (PC : PlainC g c A m ts dp d) (JC : JoinC g c A m ts dp d 5) (deep : Int) (i : Nat) (w : World) (hd : deep + ((d + 1 : Nat) : Int) = 16) (h0 : 0 ≤ deep) (h : Par w g A c m ts i dp 0) (t : Tk) (ht : ts[i]? = some t) (hb : openB t 0 = true) (hn2 : t.kind ≠ 2) (hn1 : t.kind ≠ 1) (hx : t.text = [40]) : Calls Tryz.prog 112 #[.pointer (some ⟨g, 0, none⟩), .int .i64 deep] w (ExTo w g c A m ts dp (plainD (d + 1) (ts.drop i))) := by
  have hdh := And.intro hd h0
  clear hdh
  have PC := Lib.hid PC
  have JC := Lib.hid JC
  have H_hn2 := Lib.hid hn2
  clear hn2
  have H_hn1 := Lib.hid hn1
  clear hn1
  have H_hx := Lib.hid hx
  clear hx
  have f0 : Below w.heap.size w (w.alloc (.cells #[.int .i64 0, .int .i64 0, .string ⟨#[]⟩, .slice none 0 0] 40)) := (Below.refl _ w).al _
  have x0 := Blk.new w 40 #[.int .i64 0, .int .i64 0, .string ⟨#[]⟩, .slice none 0 0]
  have H0 := h.below f0
  have OP := Lib.hid (opens_any g c A m ts i dp 0 _ H0 t ht)
  have WR := Lib.hid (fun w' (h' : Par w' g A c m ts i dp 0) => wrong_any g c A m ts i dp 0 w' h' t ht)
  have hgl := h.blk.lt
  have HT := Lib.hid (drop_tok ht)
  obtain ⟨p, hp⟩ : ∃ p, plainD (d + 1) (ts.drop i) = p := ⟨_, rfl⟩
  rw [hp]
  rw [HT.out] at hp
  have HP := Lib.hid hp
  have HB : Hid (openB t 0 = openT (t :: ts.drop (i + 1))) := openB_T
  rw [hb] at OP HB
  have hi := h.at_
  have lim := h.st.lim
  have HH := Lib.hid h
  have HH0 := Lib.hid H0
  have F0 := Lib.hid f0
  have X0 := Lib.hid x0
  have HTT := Lib.hid ht
  have z0 := f0.size
  clear h H0 f0 x0 hp hb ht
  go_enter Tryz.func112, Tryz.ntmps112
  go_wp2_with fail
  generalize w.alloc (.cells #[.int .i64 0, .int .i64 0, .string ⟨#[]⟩, .slice none 0 0] 40) = W0 at *
  refine OP.out.mono ?_
  rintro e w1 ⟨rfl, q, rfl⟩
  clear OP
  have hdd : deep < 16 := by omega
  go_upto_region 7 with fail
  have P1 := Lib.hid (HH0.out.drewN q)
  have X1 := Lib.hid (X0.out.drewN q)
  have K1 := Lib.hid ((Kept.of_below (S := fun z => z = g) F0.out).then_ ((Kept.refl (fun z => z = g) W0).drewN q) (fun _ _ e => e))
  have zz : w.heap.size < (W0.drewN q).heap.size := X0.out.lt
  generalize W0.drewN q = W1 at *
  have hkn : t.kind ≠ 0 := open_kind HB.out.symm
  have TK : Hid (∀ W, Par W g A c m ts i dp 0 → Calls Tryz.prog 87 #[.pointer (some ⟨g, 0, none⟩), .int .i64 t.kind] W (ParTo W g c A m ts dp (tkVal t) (i + 1) 0)) := fun W hW => by
    have h1 := take_any g c A m ts i dp 0 t.kind W hW t HTT.out hkn
    have h2 : nextB t 0 t.kind = true := by simp [nextB]
    rw [if_pos h2, if_pos h2, if_pos h2] at h1
    exact h1
  have hi1 : i + 1 < ts.length := HH.out.st.more HTT.out (.inl hkn)
  have HI1 := Lib.hid hi1
  clear WR HH0 X0 F0 z0
  obtain ⟨b, o, hA, hb, hbg, q0, -, -, -, -⟩ := P1.out.st.tok HTT.out
  have hAh := Lib.hid hA
  obtain ⟨n, hn⟩ : ∃ n, ts.length = n := ⟨_, rfl⟩
  have HN := Lib.hid hn
  have B := P1.out.blk
  unfold parCells at B
  rw [hA, hn] at B
  rw [hn] at hi hi1 lim
  have g1 : (0 : Int) ≤ (i : Int) := by omega
  have g2 : (i : Int) < (n : Int) := by omega
  have hgz := B.lt
  have c0 : W1.cell? ⟨g, 0, none⟩ = some (.slice (some ⟨b, o, none⟩) n c) := B.cell 0
  have c1 : W1.cell? ⟨g, 1, none⟩ = some (.int .i64 i) := B.cell 1
  have BA := B.alloc (.cells #[.int .i64 0, .string ⟨#[]⟩, .int .i64 0, .int .i64 0, .int .i64 0] 122)
  have a0 : (W1.alloc (.cells #[.int .i64 0, .string ⟨#[]⟩, .int .i64 0, .int .i64 0, .int .i64 0] 122)).cell? ⟨g, 0, none⟩ = some (.slice (some ⟨b, o, none⟩) n c) := BA.cell 0
  have a1 : (W1.alloc (.cells #[.int .i64 0, .string ⟨#[]⟩, .int .i64 0, .int .i64 0, .int .i64 0] 122)).cell? ⟨g, 1, none⟩ = some (.int .i64 i) := BA.cell 1
  have a2 : (W1.alloc (.cells #[.int .i64 0, .string ⟨#[]⟩, .int .i64 0, .int .i64 0, .int .i64 0] 122)).cell? ⟨b, o + i * 5, none⟩ = some (.int .i64 t.kind) := (World.cell?_alloc_lt _ _ _ hb).trans q0
  have fa : Below W1.heap.size W1 (W1.alloc (.cells #[.int .i64 0, .string ⟨#[]⟩, .int .i64 0, .int .i64 0, .int .i64 0] 122)).drew := ((Below.refl _ W1).al _).drew
  have PA := Lib.hid (P1.out.below fa)
  have PD := Lib.hid (P1.out.below (Below.refl _ W1).drew)
  have XA := Lib.hid (Blk.new W1 122 #[.int .i64 0, .string ⟨#[]⟩, .int .i64 0, .int .i64 0, .int .i64 0]).drew
  have FA := Lib.hid fa
  clear B BA hA hn fa
  go_cut [5] (fun v wc => ∃ g5, v = .pointer (some ⟨g5, 0, none⟩) ∧ Hid (Blk wc g5 122 #[.int .i64 t.kind, .string (str t.text), .int .i64 t.n, .int .i64 t.line, .int .i64 t.col]) ∧ Hid (Par wc g A c m ts (i + 1) dp 0) ∧ Hid (Kept (fun z => z = g) W1 wc) ∧ Hid (W1.heap.size ≤ g5))
  case first =>
    go_region_with (first
      | (go_at_call 87; (with_reducible refine (TK.out _ PD.out).mono ?_); rintro e w4 ⟨rfl, p4, k4⟩; unfold tkVal)
      | (go_at_call 87; (with_reducible refine (TK.out _ PA.out).mono ?_); rintro e w4 ⟨rfl, p4, k4⟩; unfold tkVal; have n4 := XA.out.kept k4 (by omega); have y0 : w4.cell? ⟨W1.heap.size, 0, none⟩ = some (.int .i64 0) := n4.cell 0; have y1 : w4.cell? ⟨W1.heap.size, 1, none⟩ = some (.string ⟨#[]⟩) := n4.cell 1; have y2 : w4.cell? ⟨W1.heap.size, 2, none⟩ = some (.int .i64 0) := n4.cell 2; have y3 : w4.cell? ⟨W1.heap.size, 3, none⟩ = some (.int .i64 0) := n4.cell 3; have y4 : w4.cell? ⟨W1.heap.size, 4, none⟩ = some (.int .i64 0) := n4.cell 4; have j0 := n4.frozen 0; have j1 := n4.frozen 1; have j2 := n4.frozen 2; have j3 := n4.frozen 3; have j4 := n4.frozen 4))
    all_goals
      go_wp2_with fail
      go_meet
      case rel => first
        | (with_reducible refine ⟨w4.heap.size, rfl, ?_⟩); exact ⟨Blk.new _ _ _, p4.below ((Below.refl _ w4).al _), ((((Kept.refl (fun z => z = g) W1).drew).then_ k4 (fun _ _ e => e)).alloc _), k4.size⟩
        | (with_reducible refine ⟨W1.heap.size, rfl, ?_⟩); exact ⟨n4.put5 _ _ _ _ _, P1.out.put HI1.out (p4.blk.kept (Kept.put5 w4 W1.heap.size _ _ _ _ _) (by omega)) (((Kept.of_below (S := fun z => z = g) FA.out).then_ k4 (fun _ _ e => e)).then_ (Kept.put5 w4 W1.heap.size _ _ _ _ _) (fun z hz e => by omega)), ((Kept.of_below (S := fun z => z = g) FA.out).then_ k4 (fun _ _ e => e)).then_ (Kept.put5 w4 W1.heap.size _ _ _ _ _) (fun z hz e => by omega), Nat.le_refl _⟩
  case rest =>
    obtain ⟨g5, rfl, B5, P2, K2, hg5⟩ := hcut
    obtain ⟨W2, rfl⟩ : ∃ x, x = wc := ⟨_, rfl⟩
    have X2 := Lib.hid (X1.out.kept K2.out (by omega))
    have zz2 : W1.heap.size ≤ W2.heap.size := K2.out.size
    have hg5' : W1.heap.size ≤ g5 := hg5.out
    have hg52 : g5 < W2.heap.size := B5.out.lt
    have KW := Lib.hid (K1.out.then_ K2.out (fun _ _ e => e))
    clear TK PA PD XA FA a0 a1 a2 c0 c1 q0 K1 K2 X1 P1 hb hbg hg5
    have u0 : W2.cell? ⟨g5, 0, none⟩ = some (.int .i64 t.kind) := B5.out.cell 0
    have u1 : W2.cell? ⟨g5, 1, none⟩ = some (.string (str t.text)) := B5.out.cell 1
    have u2 : W2.cell? ⟨g5, 2, none⟩ = some (.int .i64 t.n) := B5.out.cell 2
    have hn2 := H_hn2.out
    have hn1 := H_hn1.out
    have hx := H_hx.out
    have hk2' : (t.kind == 2) = false := by simp [hn2]
    have hk1' : (t.kind == 1) = false := by simp [hn1]
    have HR : Hid (p = (joinL (plainD d) 5 (ts.drop (i + 1))).thenMust [41] id) := HP.out.symm.trans (plainD_par HB.out.symm hn2 hn1 hx)
    have JW : Hid (∀ W, Par W g A c m ts (i + 1) dp 0 → Calls Tryz.prog 77 #[.pointer (some ⟨g, 0, none⟩), .int .i64 0, .int .i64 (deep + 1)] W (ExTo W g c A m ts dp (joinL (plainD d) 5 (ts.drop (i + 1))))) := fun W hW => JC.out (deep + 1) 0 (i + 1) W (by omega) (by omega) (by omega) hW
    generalize joinL (plainD d) 5 (ts.drop (i + 1)) = pj at *
    have hwd : IntKind.i64.wrap (deep + 1) = deep + 1 := IntWalk.i64_in _ ⟨by omega, by omega⟩
    rw [hx] at u1
    change W2.cell? ⟨g5, 1, none⟩ = some (.string ⟨#[40]⟩) at u1
    clear PC JC
    go_upto_region 17 with fail
    clear u0 u1 u2 hk2' hk1' hx hn2 hn1
    go_wp2_with fail
    refine (JW.out _ P2.out).mono ?_
    rintro e w4 ⟨op, N, nm, B, l, k, rfl, k4, h4⟩
    have x4 := X2.out.kept k4 (by omega)
    have zz4 := k4.size
    have hgw := P2.out.blk.lt
    have X4 := Lib.hid x4
    have K4 := Lib.hid k4
    have H4 := Lib.hid h4
    clear k4 h4 JW x4 hwd
    go_upto_region 18 with fail
    have K45 := (Kept.refl (fun z => z = w4.heap.size) w4).alloc (.cells #[.int .i64 op, .int .i64 N, .string nm, .slice B l k] 40)
    have B7 := Blk.new w4 40 #[.int .i64 op, .int .i64 N, .string nm, .slice B l k]
    generalize w4.alloc (.cells #[.int .i64 op, .int .i64 N, .string nm, .slice B l k] 40) = W5 at *
    have B7 := Lib.hid B7
    have X5 := Lib.hid (X4.out.kept K45 (by omega))
    have zz5 := K45.size
    have h5 := H4.out.kept_lt K45 (by omega) (fun z hz _ e => by omega)
    have KW5 := Lib.hid ((KW.out.then_ K4.out (fun _ _ e => e)).then_ K45 (fun z hz e => by omega))
    obtain ⟨i', er', hi', hbk, hpj⟩ := h5
    have P5 := P2.out.put hi' hbk ((K4.out.then_ K45 (fun z hz e => by omega)))
    obtain ⟨t', ht'⟩ := ParS.at_some hi'
    have MU : Hid (Calls Tryz.prog 55 #[.pointer (some ⟨g, 0, none⟩), .string ⟨#[41]⟩] W5 (ParTo W5 g c A m ts dp (.tuple #[]) (if hasB t' er' [41] then i' + 1 else i') (mustE t' er' [41]))) := must_any g c A m ts i' dp er' [41] W5 P5 t' ht'
    have HPJ := Lib.hid hpj
    have HT' := Lib.hid ht'
    obtain ⟨i5, hi5⟩ : ∃ i5, (if hasB t' er' [41] then i' + 1 else i') = i5 := ⟨_, rfl⟩
    obtain ⟨er5, her5⟩ : ∃ er5, mustE t' er' [41] = er5 := ⟨_, rfl⟩
    rw [hi5, her5] at MU
    have HI5 := Lib.hid hi5
    have HER5 := Lib.hid her5
    clear hpj ht' hi5 her5 hbk P5 H4 K4 X4 KW K45
    go_wp2_with fail
    refine MU.out.mono ?_
    rintro e W6 ⟨rfl, p6, k6⟩
    have x6 := X5.out.kept k6 (by omega)
    have B76 := B7.out.kept k6 (by omega)
    have v0 : W6.cell? ⟨w4.heap.size, 0, none⟩ = some (.int .i64 op) := B76.cell 0
    have v1 : W6.cell? ⟨w4.heap.size, 1, none⟩ = some (.int .i64 N) := B76.cell 1
    have v2 : W6.cell? ⟨w4.heap.size, 2, none⟩ = some (.string nm) := B76.cell 2
    have v3 : W6.cell? ⟨w4.heap.size, 3, none⟩ = some (.slice B l k) := B76.cell 3
    have P6 := Lib.hid p6
    have K6 := Lib.hid k6
    clear p6 k6 MU
    have s0 : W6.cell? ⟨w.heap.size, 0, none⟩ = some (.int .i64 0) := x6.cell 0
    have t0 := x6.frozen 0
    have s1 : W6.cell? ⟨w.heap.size, 1, none⟩ = some (.int .i64 0) := x6.cell 1
    have t1 := x6.frozen 1
    have s2 : W6.cell? ⟨w.heap.size, 2, none⟩ = some (.string ⟨#[]⟩) := x6.cell 2
    have t2 := x6.frozen 2
    have s3 : W6.cell? ⟨w.heap.size, 3, none⟩ = some (.slice none 0 0) := x6.cell 3
    have t3 := x6.frozen 3
    go_wp2_with fail
    clear s0 s1 s2 s3
    have X9 := (x6).put4 (.int .i64 op) (.int .i64 N) (.string nm) (.slice B l k)
    have K9 := Kept.put4 W6 w.heap.size (.int .i64 op) (.int .i64 N) (.string nm) (.slice B l k)
    generalize (((W6.setCell ⟨w.heap.size, 0, none⟩ (.int .i64 op)).setCell ⟨w.heap.size, 1, none⟩ (.int .i64 N)).setCell ⟨w.heap.size, 2, none⟩ (.string nm)).setCell ⟨w.heap.size, 3, none⟩ (.slice B l k) = W9 at *
    have s0 : W9.cell? ⟨w.heap.size, 0, none⟩ = some (.int .i64 op) := X9.cell 0
    have s1 : W9.cell? ⟨w.heap.size, 1, none⟩ = some (.int .i64 N) := X9.cell 1
    have s2 : W9.cell? ⟨w.heap.size, 2, none⟩ = some (.string nm) := X9.cell 2
    have s3 : W9.cell? ⟨w.heap.size, 3, none⟩ = some (.slice B l k) := X9.cell 3
    have KK : Kept (fun z => z = g) w W9 := (KW5.out.then_ K6.out (fun _ _ e => e)).then_ K9 (fun z hz e => by omega)
    refine bodyPost_ret (v := .agg #[.int .i64 op, .int .i64 N, .string nm, .slice B l k]) (by simp [results, Tryz.results112, go_sem, s0, s1, s2, s3]) rfl ⟨_, _, _, _, _, _, rfl, KK, ?_⟩
    rw [HR.out]
    have K69 : Kept (fun z => z = g ∨ z = w.heap.size) W5 W9 := (K6.out.mono (T := fun z => z = g ∨ z = w.heap.size) (fun _ _ e => .inl e)).then_ K9 (fun _ _ e => .inr e)
    refine ExAt.must id HPJ.out HT'.out (by rw [HI5.out]; exact P6.out.at_) (by rw [HI5.out, HER5.out]; exact P6.out.blk.kept K9 (by omega)) (fun y hy => (hy.kept K69 (fun z hz e => by rcases e with e | e <;> omega)).mono (fun z _ hz => by omega))
end Go.Proofs.YtdgekckedchjbaaGreatDoor
