
/-
  The law's vars and stmts: the program's trees as the document's. (Printed by wip/tools/gens31.py.) The law's To: a program of the program's as the document's. (Printed by wip/tools/gens32.py.) The document's SameVars, SameStmts and Same at one tree twice. (Printed by wip/tools/gens33.py.) The document's Same at one program twice. (Printed by wip/tools/gens34.py.)
-/
import Derived.Test.YtdmlnoeneoomfaaDoorSD
import Derived.Test.YtdmlnoeneoomfaaDoorG2
import Derived.Deep.RegionHeld3
import Derived.Test.YtdmlnoeneoomfaaDoorG3
namespace Go.Proofs.YtdmlnoeneoomfaaDoor
open Go.RowKit

theorem info_rvar : (Tryd.prog.info? 128).map (fun i => (i.zero, i.size, i.bytes)) = some (some (.agg #[.string ByteArray.empty, .int .i64 0, .int .i64 0, .int .i64 0]), 4, 40) := by kernel_rfl
theorem info_rstmt : (Tryd.prog.info? 41).map (fun i => (i.zero, i.size, i.bytes)) = some (some (.agg #[.int .i64 0, .string ByteArray.empty, .slice none 0 0, .int .i64 0, .int .i64 0, .slice none 0 0, .slice none 0 0]), 7, 112) := by kernel_rfl
/-- A statement's seven cells, its expressions as trees of any shape. -/
def RS (D : Nat → Prop) (w : World) : Nat → List Value → St → Prop
  | 0, _, _ => False
  | n + 1, cs, .mk kind nm E lo hi L El => ∃ (A1 : Option Addr) (l1 c1 : Nat) (A2 : Option Addr) (l2 c2 : Nat) (A3 : Option Addr) (l3 c3 m : Nat),
      cs = [.int .i64 kind, .string (str nm), .slice A1 l1 c1, .int .i64 lo, .int .i64 hi, .slice A2 l2 c2, .slice A3 l3 c3] ∧
      ElsG D w 4 1000000 (GC D w 1000000 m) A1 l1 (E.map Ex.gx) ∧ ElsG D w 7 1000000 (RS D w n) A2 l2 L ∧ ElsG D w 7 1000000 (RS D w n) A3 l3 El
def QR (d : Nat) : Cel St := fun D w cs s => RS D w d cs s
theorem RS.kept {D E S : Nat → Prop} {w w' : World} (hk : Kept S w w') (hs : ∀ k, k < w.heap.size → D k → ¬ S k) (hE : ∀ k, k < w.heap.size → D k → E k) : ∀ (n : Nat) (cs : List Value) (s : St), RS D w n cs s → RS E w' n cs s
  | 0, _, _, h => h
  | n + 1, cs, .mk kind nm El lo hi L Ls, h => by
    obtain ⟨A1, l1, c1, A2, l2, c2, A3, l3, c3, m, h1, h2, h3, h4⟩ := h
    exact ⟨A1, l1, c1, A2, l2, c2, A3, l3, c3, m, h1, h2.kept hk hs hE (GC.kept hk hs hE m), h3.kept hk hs hE (RS.kept hk hs hE n), h4.kept hk hs hE (RS.kept hk hs hE n)⟩
theorem QR_kept (d : Nat) : QKept (QR d) := fun _ _ _ _ _ cs s hk hs hE h => RS.kept hk hs hE d cs s h
/-- Parsed expressions as trees of any shape. -/
theorem els_gx {D : Nat → Prop} {w : World} {A : Option Addr} {len : Nat} {E : List Ex} (h : ElsG D w 4 1000000 (QE D w) A len E) : ∃ m, ElsG D w 4 1000000 (GC D w 1000000 m) A len (E.map Ex.gx) := by
  obtain ⟨xs, h1, h0, h2, h3, h4⟩ := h
  have hm : ∃ m, ∀ x ∈ E, x.dep ≤ m := by
    clear h1 h0 h2 h3 h4
    induction E with
    | nil => exact ⟨0, by simp⟩
    | cons a E ih =>
      obtain ⟨m, hm⟩ := ih
      refine ⟨max a.dep m, fun x hx => ?_⟩
      rcases List.mem_cons.1 hx with rfl | hx
      · exact Nat.le_max_left _ _
      · exact Nat.le_trans (hm x hx) (Nat.le_max_right _ _)
  obtain ⟨m, hm⟩ := hm
  refine ⟨m, xs, h1, h0, h2, by rw [List.length_map]; exact h3, fun i hi => ?_⟩
  have hi' : i < E.length := by rw [List.length_map] at hi; exact hi
  rw [List.getElem_map]
  exact (TE.gc (by omega) _ _ (h4 i hi')).deeper (hm _ (List.getElem_mem hi'))
theorem OwnG.elsD {w : World} {base : Nat} {t : TypeId} {M n len cap : Nat} {A : Option Addr} {l : List Gx} (h : OwnG w base t M n (.slice A len cap) l) (hl : l.length = len) (hM : len ≤ M) : ElsG (fun z => base ≤ z) w 4 M (GC (fun z => base ≤ z) w M n) A len l := h.els hl hM
theorem OwnA.els {α : Type} {s : Nat} {Q : Cel α} (hq : QKept Q) {w : World} {base : Nat} {t : TypeId} {A : Option Addr} {n c : Nat} {l : List α} (h : OwnA s Q w base t (.slice A n c) l) (hM : n ≤ 1000000) : ElsG (fun z => base ≤ z) w s 1000000 (Q (fun z => base ≤ z) w) A n l := by
  have hl : n = l.length := by
    obtain ⟨A', c', hv⟩ := h.slice
    injection hv
  exact (h.row hq (by omega)).els
theorem OwnA.kept {α : Type} {s : Nat} {Q : Cel α} (hq : QKept Q) {w w' : World} {base : Nat} {t : TypeId} {v : Value} {l : List α} {S : Nat → Prop} (h : OwnA s Q w base t v l) (hk : Kept S w w') (hs : ∀ k, k < w.heap.size → base ≤ k → ¬ S k) : OwnA s Q w' base t v l := by
  obtain ⟨ys, h1, h2, h3, h4⟩ := h
  have hlt := own_lt h1
  have hge := own_ge h1
  exact ⟨ys, own_keptS h1 hk (fun k e => hs k (hlt k e) (hge k e)), h2, h3, fun i hi => hq _ _ S w w' _ _ hk (fun k hk hd => hs k hk hd.1) (fun _ _ h => h) (h4 i hi)⟩
def VarsTo (w : World) (l : List Va) (len : Nat) (e : Ending) (w' : World) : Prop := ∃ (A' : Option Addr) (c' : Nat), e = .returned (.slice A' len c') ∧ Below w.heap.size w w' ∧ OwnA 4 QV w' w.heap.size 128 (.slice A' len c') l
set_option maxHeartbeats 4000000 in
set_option maxRecDepth 100000 in
theorem vars_any (D : Nat → Prop) (A : Option Addr) (len cap : Nat) (l : List Va) (w : World) (hr : ElsG D w 4 1000000 (QV D w) A len l) :
    Calls Tryd.prog 40 #[.slice A len cap] w (VarsTo w l len) := by
  obtain ⟨xs, hrd, -, hl, hk, hc⟩ := hr
  have HRD := Lib.hid hrd
  have HK := Lib.hid hk
  have HC := Lib.hid hc
  clear hrd hk hc
  go_enter Tryd.func40, Tryd.ntmps40
  go_wp2_with fail
  go_loopw [3, 8] (fun v i wr => ∃ k : Nat, k ≤ len ∧ i = .int .i64 k ∧ Hid (OwnA 4 QV wr w.heap.size 128 v (l.take k)) ∧ Hid (Below w.heap.size w wr)) (fun _ i _ => len - (intOf i).toNat)
  case atStart => exact ⟨0, by omega, rfl, OwnA.nil _ _ _ _ _, Below.refl _ _⟩
  case round =>
    obtain ⟨k, hkl, rfl, ho, hbw⟩ := hrel
    by_cases hlt : k < len
    · have hkk : k < l.length := by rw [HK.out]; exact hlt
      have ec := HC.out k hkk
      have HTK := Lib.hid (List.take_succ_eq_append_getElem hkk)
      generalize l[k] = g at *
      obtain ⟨nm, sz, lo, hi⟩ := g
      obtain ⟨S, hS⟩ : ∃ S, str nm = S := ⟨_, rfl⟩
      have HS := Lib.hid hS
      have hcs : (xs.drop (k * 4)).take 4 = [.string S, .int .i64 sz, .int .i64 lo, .int .i64 hi] := by rw [← hS]; exact ec
      clear hS
      obtain ⟨bb, oo, rfl, hbb, hcells⟩ := HRD.out.chunk (by omega) hlt hcs
      have q0 := (hbw.out.cell (p := ⟨bb, oo + k * 4, none⟩) hbb).trans (hcells 0 _ rfl)
      have q1 := (hbw.out.cell (p := ⟨bb, oo + k * 4 + 1, none⟩) hbb).trans (hcells 1 _ rfl)
      have q2 := (hbw.out.cell (p := ⟨bb, oo + k * 4 + 2, none⟩) hbb).trans (hcells 2 _ rfl)
      have q3 := (hbw.out.cell (p := ⟨bb, oo + k * 4 + 3, none⟩) hbb).trans (hcells 3 _ rfl)
      have g1 : (0 : Int) ≤ (k : Int) := by omega
      have g2 : (k : Int) < (len : Int) := by omega
      clear hcells hcs ec
      obtain ⟨ys, how, hyl, hone, hold⟩ := ho.out
      have htl : (l.take k).length = k := by rw [List.length_take]; omega
      rw [htl] at how hyl
      have HYL := Lib.hid hyl
      have HONE := Lib.hid hone
      have HOLD := Lib.hid hold
      have HTL := Lib.hid htl
      have hog := Lib.hid (own_ge how)
      have hol := Lib.hid (own_lt how)
      have B1 := Blk.new wr 116 #[.string S, .int .i64 sz, .int .i64 lo, .int .i64 hi]
      have hz9 : wr.heap.size < (wr.alloc (.cells #[.string S, .int .i64 sz, .int .i64 lo, .int .i64 hi] 116)).heap.size := by simp
      have k1 := (Kept.refl (fun _ => False) wr).alloc (.cells #[.string S, .int .i64 sz, .int .i64 lo, .int .i64 hi] 116)
      have HOW := Lib.hid (World.ownsRow.alloc how (.cells #[.string S, .int .i64 sz, .int .i64 lo, .int .i64 hi] 116))
      have hwz := hbw.out.size
      clear how hyl hold hone ho
      go_upto_region 5 with fail
      have b0 := B1.cell 0
      have b1 := B1.cell 1
      have b2 := B1.cell 2
      have b3 := B1.cell 3
      clear q0 q1 q2 q3 B1
      generalize wr.alloc (.cells #[.string S, .int .i64 sz, .int .i64 lo, .int .i64 hi] 116) = W1 at *
      obtain ⟨i0, hi0, hz0, hz1, hz2⟩ := info_parts info_rvar
      have RD := Lib.hid (reads_new W1 128 #[.string S, .int .i64 sz, .int .i64 lo, .int .i64 hi] 4 rfl)
      have o2 := Lib.hid (World.ownsRow.alloc HOW.out (.cells #[.string S, .int .i64 sz, .int .i64 lo, .int .i64 hi] 128))
      have ON : Hid (∀ u ∈ ([.string S, .int .i64 sz, .int .i64 lo, .int .i64 hi] : List Value), u.oneCell' = true) := by
        intro u hu
        simp only [List.mem_cons, List.not_mem_nil, or_false] at hu
        rcases hu with rfl | rfl | rfl | rfl <;> rfl
      have K1 := Lib.hid k1
      clear k1
      go_wp2_with (at_builtin; refine wpList_append_any _ rfl (.tmp 12) (.tmp 14) 60 rfl w.heap.size 128 i0 _ 4 40 Tryd.underlying60 hi0 hz0 hz1 hz2 rfl (by omega) _ k ys rfl o2.out _ _ 1 1 [.string S, .int .i64 sz, .int .i64 lo, .int .i64 hi] rfl RD.out ON.out (by unfold maxLen; omega) (by omega) (by simp; omega) ?_; intro v8 w8 o8 g8 at8)
      have K8 : Kept (fun z => u3.ownBlock = some z) W1 w8 := ((Kept.refl (fun z => u3.ownBlock = some z) W1).alloc _).then_ (Kept.of_grown g8 (fun _ e => e)) (fun _ _ e => e)
      have KW : Kept (fun z => u3.ownBlock = some z) wr w8 := (K1.out.mono (T := fun z => u3.ownBlock = some z) (fun _ _ h => h.elim)).then_ K8 (fun _ _ e => e)
      have HB : Hid (Below w.heap.size w w8) := hbw.out.trans (KW.to_below hwz (fun z hz e => by have := hog.out _ e; omega))
      have HO : Hid (OwnA 4 QV w8 w.heap.size 128 v8 (l.take (k + 1))) := by
        rw [HTK.out]
        have ho8 := o8
        have hy8 := HYL.out
        rw [← HTL.out] at ho8 hy8
        refine OwnA.push (D := fun _ => False) QV_kept ho8 hy8 rfl HONE.out ON.out HOLD.out (KW.mono fun z _ e => .inr e) (fun z hz hne e => ?_) (by rw [← HS.out]; rfl) (fun _ _ h => h.elim)
        rcases at8 with h | h
        · exact hne (h ▸ e)
        · rw [h] at e
          have e := Option.some.inj e
          have : (W1.alloc (.cells #[.string S, .int .i64 sz, .int .i64 lo, .int .i64 hi] 128)).heap.size = W1.heap.size + 1 := by simp
          omega
      clear o8 g8 at8 K8 KW
      go_wp2_with fail
      go_roundw
      case rel => exact ⟨k + 1, by omega, by go_num, HO, HB⟩
      case measure => simp [intOf]; omega
    · obtain rfl : k = len := by omega
      have hll : l.take k = l := by rw [List.take_of_length_le (by rw [HK.out]; exact Nat.le_refl _)]
      have HLL := Lib.hid hll
      obtain ⟨A', c', hv⟩ := ho.out.slice
      rw [hll, HK.out] at hv
      have HO := Lib.hid ho.out
      subst hv
      clear ho hll
      go_wp2_with fail
      go_ret
      exact ⟨_, _, rfl, hbw.out, by have := HO.out; rw [HLL.out] at this; exact this⟩
def StmtsTo (w : World) (d : Nat) (l : List St) (len : Nat) (e : Ending) (w' : World) : Prop := ∃ (A' : Option Addr) (c' : Nat), e = .returned (.slice A' len c') ∧ Below w.heap.size w w' ∧ OwnA 7 (QR d) w' w.heap.size 41 (.slice A' len c') l
def StmtsOk (d : Nat) : Prop := ∀ (D : Nat → Prop) (A : Option Addr) (len cap : Nat) (l : List St) (w : World), ElsG D w 7 1000000 (SE D w d) A len l → Calls Tryd.prog 41 #[.slice A len cap] w (StmtsTo w d l len)
set_option maxHeartbeats 8000000 in
set_option maxRecDepth 100000 in
theorem stmts_step (n : Nat) (H : ∀ q, n = q + 1 → StmtsOk q) : StmtsOk n := by
  intro D A len cap l w hr
  obtain ⟨xs, hrd, -, hl, hk, hc⟩ := hr
  have HRD := Lib.hid hrd
  have HK := Lib.hid hk
  have HC := Lib.hid hc
  have HH := Lib.hid H
  clear hrd hk hc H
  go_enter Tryd.func41, Tryd.ntmps41
  go_wp2_with fail
  go_loopw [3, 8] (fun v i wr => ∃ k : Nat, k ≤ len ∧ i = .int .i64 k ∧ Hid (OwnA 7 (QR n) wr w.heap.size 41 v (l.take k)) ∧ Hid (Below w.heap.size w wr)) (fun _ i _ => len - (intOf i).toNat)
  case atStart => exact ⟨0, by omega, rfl, OwnA.nil _ _ _ _ _, Below.refl _ _⟩
  case round =>
    obtain ⟨k, hkl, rfl, ho, hbw⟩ := hrel
    by_cases hlt : k < len
    · have hkk : k < l.length := by rw [HK.out]; exact hlt
      have ec := HC.out k hkk
      have HTK := Lib.hid (List.take_succ_eq_append_getElem hkk)
      obtain ⟨q, rfl⟩ : ∃ q, n = q + 1 := by
        cases n with
        | zero => exact absurd ec id
        | succ q => exact ⟨q, rfl⟩
      generalize l[k] = g at *
      obtain ⟨kind, nm, E, lo, hi, L, El⟩ := g
      obtain ⟨A1, l1, c1, A2, l2, c2, A3, l3, c3, hcs, heE, heL, heS⟩ := ec
      obtain ⟨m, heG⟩ := els_gx heE
      have hlE : (E.map Ex.gx).length = l1 := by obtain ⟨_, _, _, _, h, _⟩ := heG; exact h
      have hb1 : l1 ≤ 1000000 := by obtain ⟨_, _, _, h, _, _⟩ := heG; exact h
      have hb2 : l2 ≤ 1000000 := by obtain ⟨_, _, _, h, _, _⟩ := heL; exact h
      have hb3 : l3 ≤ 1000000 := by obtain ⟨_, _, _, h, _, _⟩ := heS; exact h
      have HLE := Lib.hid hlE
      have HB1 := Lib.hid hb1
      have HB2 := Lib.hid hb2
      have HB3 := Lib.hid hb3
      clear hlE hb1 hb2 hb3 heE
      have CE : Hid (∀ W, Below w.heap.size w W → Calls Tryd.prog 25 #[.slice A1 l1 c1] W fun e w' => ∃ A' c', e = .returned (.slice A' l1 c') ∧ Below W.heap.size W w' ∧ OwnG w' W.heap.size 34 1000000 m (.slice A' l1 c') (E.map Ex.gx)) := fun W hW => exprs_any m D A1 l1 c1 (E.map Ex.gx) W (ElsG.below heG hW)
      have CL : Hid (∀ W, Below w.heap.size w W → Calls Tryd.prog 41 #[.slice A2 l2 c2] W (StmtsTo W q L l2)) := fun W hW => HH.out q rfl D A2 l2 c2 L W (heL.kept (Kept.of_below (S := fun _ => False) hW) (fun _ _ _ h => h) (fun _ _ h => h) (SE.kept (Kept.of_below (S := fun _ => False) hW) (fun _ _ _ h => h) (fun _ _ h => h) q))
      have CS : Hid (∀ W, Below w.heap.size w W → Calls Tryd.prog 41 #[.slice A3 l3 c3] W (StmtsTo W q El l3)) := fun W hW => HH.out q rfl D A3 l3 c3 El W (heS.kept (Kept.of_below (S := fun _ => False) hW) (fun _ _ _ h => h) (fun _ _ h => h) (SE.kept (Kept.of_below (S := fun _ => False) hW) (fun _ _ _ h => h) (fun _ _ h => h) q))
      obtain ⟨S, hS⟩ : ∃ S, str nm = S := ⟨_, rfl⟩
      have HS := Lib.hid hS
      rw [hS] at hcs
      clear hS heG heL heS
      obtain ⟨bb, oo, rfl, hbb, hcells⟩ := HRD.out.chunk (by omega) hlt hcs
      have q0 := (hbw.out.cell (p := ⟨bb, oo + k * 7, none⟩) hbb).trans (hcells 0 _ rfl)
      have q1 := (hbw.out.cell (p := ⟨bb, oo + k * 7 + 1, none⟩) hbb).trans (hcells 1 _ rfl)
      have q2 := (hbw.out.cell (p := ⟨bb, oo + k * 7 + 2, none⟩) hbb).trans (hcells 2 _ rfl)
      have q3 := (hbw.out.cell (p := ⟨bb, oo + k * 7 + 3, none⟩) hbb).trans (hcells 3 _ rfl)
      have q4 := (hbw.out.cell (p := ⟨bb, oo + k * 7 + 4, none⟩) hbb).trans (hcells 4 _ rfl)
      have q5 := (hbw.out.cell (p := ⟨bb, oo + k * 7 + 5, none⟩) hbb).trans (hcells 5 _ rfl)
      have q6 := (hbw.out.cell (p := ⟨bb, oo + k * 7 + 6, none⟩) hbb).trans (hcells 6 _ rfl)
      have g1 : (0 : Int) ≤ (k : Int) := by omega
      have g2 : (k : Int) < (len : Int) := by omega
      clear hcells hcs
      obtain ⟨ys, how, hyl, hone, hold⟩ := ho.out
      have htl : (l.take k).length = k := by rw [List.length_take]; omega
      rw [htl] at how hyl
      have HOW := Lib.hid how
      have HYL := Lib.hid hyl
      have HONE := Lib.hid hone
      have HOLD := Lib.hid hold
      have HTL := Lib.hid htl
      have hog := Lib.hid (own_ge how)
      have hol := Lib.hid (own_lt how)
      have B1 := Blk.new wr 130 #[.int .i64 kind, .string S, .slice A1 l1 c1, .int .i64 lo, .int .i64 hi, .slice A2 l2 c2, .slice A3 l3 c3]
      have f1 := Below.al (Below.refl wr.heap.size wr) (.cells #[.int .i64 kind, .string S, .slice A1 l1 c1, .int .i64 lo, .int .i64 hi, .slice A2 l2 c2, .slice A3 l3 c3] 130)
      have hz9 : (wr.alloc (.cells #[.int .i64 kind, .string S, .slice A1 l1 c1, .int .i64 lo, .int .i64 hi, .slice A2 l2 c2, .slice A3 l3 c3] 130)).heap.size = wr.heap.size + 1 := by simp
      clear how hyl hold hone ho
      go_upto_region 5 with fail
      generalize wr.alloc (.cells #[.int .i64 kind, .string S, .slice A1 l1 c1, .int .i64 lo, .int .i64 hi, .slice A2 l2 c2, .slice A3 l3 c3] 130) = W1 at *
      obtain ⟨i0, hi0, hz0, hz1, hz2⟩ := info_parts info_rstmt
      have hwz := hbw.out.size
      have FD := Lib.hid (hbw.out.trans (f1.drew.mono hwz))
      have F1 := Lib.hid f1.drew
      have qq : W1.drew.cell? ⟨wr.heap.size, 0, none⟩ = some (.int .i64 kind) ∧ W1.drew.cell? ⟨wr.heap.size, 1, none⟩ = some (.string S) ∧ W1.drew.cell? ⟨wr.heap.size, 2, none⟩ = some (.slice A1 l1 c1) ∧ W1.drew.cell? ⟨wr.heap.size, 3, none⟩ = some (.int .i64 lo) ∧ W1.drew.cell? ⟨wr.heap.size, 4, none⟩ = some (.int .i64 hi) ∧ W1.drew.cell? ⟨wr.heap.size, 5, none⟩ = some (.slice A2 l2 c2) ∧ W1.drew.cell? ⟨wr.heap.size, 6, none⟩ = some (.slice A3 l3 c3) := ⟨B1.cell 0, B1.cell 1, B1.cell 2, B1.cell 3, B1.cell 4, B1.cell 5, B1.cell 6⟩
      have qB : Hid (∀ W, Blk W wr.heap.size 130 #[.int .i64 kind, .string S, .slice A1 l1 c1, .int .i64 lo, .int .i64 hi, .slice A2 l2 c2, .slice A3 l3 c3] → W.cell? ⟨wr.heap.size, 0, none⟩ = some (.int .i64 kind) ∧ W.cell? ⟨wr.heap.size, 1, none⟩ = some (.string S) ∧ W.cell? ⟨wr.heap.size, 2, none⟩ = some (.slice A1 l1 c1) ∧ W.cell? ⟨wr.heap.size, 3, none⟩ = some (.int .i64 lo) ∧ W.cell? ⟨wr.heap.size, 4, none⟩ = some (.int .i64 hi) ∧ W.cell? ⟨wr.heap.size, 5, none⟩ = some (.slice A2 l2 c2) ∧ W.cell? ⟨wr.heap.size, 6, none⟩ = some (.slice A3 l3 c3)) := fun W h => ⟨h.cell 0, h.cell 1, h.cell 2, h.cell 3, h.cell 4, h.cell 5, h.cell 6⟩
      have HBB := Lib.hid B1.drew
      have z1 : W1.drew.heap.size = wr.heap.size + 1 := hz9
      clear B1 f1 q0 q1 q2 q3 q4 q5 q6
      go_region_held3 (fun w' => w'.cell? ⟨wr.heap.size, 0, none⟩ = some (.int .i64 kind) ∧ w'.cell? ⟨wr.heap.size, 1, none⟩ = some (.string S) ∧ w'.cell? ⟨wr.heap.size, 2, none⟩ = some (.slice A1 l1 c1) ∧ w'.cell? ⟨wr.heap.size, 3, none⟩ = some (.int .i64 lo) ∧ w'.cell? ⟨wr.heap.size, 4, none⟩ = some (.int .i64 hi) ∧ w'.cell? ⟨wr.heap.size, 5, none⟩ = some (.slice A2 l2 c2) ∧ w'.cell? ⟨wr.heap.size, 6, none⟩ = some (.slice A3 l3 c3)) (first | (with_reducible exact qq) | (with_reducible exact qB.out _ y5) | (with_reducible exact qB.out _ y6) | (with_reducible exact qB.out _ y7) | (with_reducible exact qB.out _ (y7.alloc _)) | (with_reducible exact q8))
        (first
        | (go_at_call 25; (with_reducible refine (CE.out _ FD.out).mono ?_); rintro e w5 ⟨B1, d1, rfl, b5, o5⟩; have y5 := HBB.out.below b5 HBB.out.lt; have F5 := Lib.hid (FD.out.trans (b5.mono FD.out.size)); have G5 := Lib.hid (F1.out.trans (b5.mono F1.out.size)); have O5 := Lib.hid o5; have z5 := b5.size; have BE5 := Lib.hid b5; clear o5 b5)
        | (go_at_call 41; (with_reducible refine (CL.out _ F5.out).mono ?_); rintro e w6 ⟨B2, d2, rfl, b6, o6⟩; have y6 := y5.below b6 y5.lt; have F6 := Lib.hid (F5.out.trans (b6.mono F5.out.size)); have G6 := Lib.hid (G5.out.trans (b6.mono G5.out.size)); have O6 := Lib.hid o6; have z6 := b6.size; have BE6 := Lib.hid b6; clear o6 b6)
        | (go_at_call 41; (with_reducible refine (CS.out _ F6.out).mono ?_); rintro e w7 ⟨B3, d3, rfl, b7, o7⟩; have y7 := y6.below b7 y6.lt; have G7 := Lib.hid (G6.out.trans (b7.mono G6.out.size)); have O7 := Lib.hid o7; have z7 := b7.size; have BE7 := Lib.hid b7; have OW7 := Lib.hid (World.ownsRow.alloc (own_below HOW.out G7.out (Nat.le_refl _)) (.cells #[.int .i64 kind, .string S, .slice B1 l1 d1, .int .i64 lo, .int .i64 hi, .slice B2 l2 d2, .slice B3 l3 d3] 41)); have RD := Lib.hid (reads_new w7 41 #[.int .i64 kind, .string S, .slice B1 l1 d1, .int .i64 lo, .int .i64 hi, .slice B2 l2 d2, .slice B3 l3 d3] 7 rfl); clear o7 b7; have ON : Hid (∀ u ∈ ([.int .i64 kind, .string S, .slice B1 l1 d1, .int .i64 lo, .int .i64 hi, .slice B2 l2 d2, .slice B3 l3 d3] : List Value), u.oneCell' = true) := (by intro u hu; simp only [List.mem_cons, List.not_mem_nil, or_false] at hu; rcases hu with rfl | rfl | rfl | rfl | rfl | rfl | rfl <;> rfl))
        | (refine step_append_any _ (by rfl) (.tmp 12) (.tmp 31) _ (by rfl) w.heap.size 41 i0 _ 7 112 Tryd.underlying39 hi0 hz0 hz1 hz2 rfl (by omega) u3 k ys (by rfl) OW7.out _ _ 1 1 [.int .i64 kind, .string S, .slice B1 l1 d1, .int .i64 lo, .int .i64 hi, .slice B2 l2 d2, .slice B3 l3 d3] (by rfl) RD.out ON.out (by unfold maxLen; omega) (by omega) (by have := G7.out.size; simp; omega) ?_; intro v8 w8 o8 g8 at8; have q8 := qB.out _ ((y7.alloc _).grown g8 (fun e => by have := hol.out _ e.symm; omega)); have O8 := Lib.hid o8; have G8 := Lib.hid g8; have AT8 := Lib.hid at8; clear o8 g8 at8))
      have K78 : Kept (fun z => u3.ownBlock = some z) w7 w8 := ((Kept.refl (fun z => u3.ownBlock = some z) w7).alloc _).then_ (Kept.of_grown G8.out (fun _ e => e)) (fun _ _ e => e)
      have K68 : Kept (fun z => u3.ownBlock = some z) w6 w8 := (Kept.of_below (S := fun z => u3.ownBlock = some z) BE7.out).then_ K78 (fun _ _ e => e)
      have K58 : Kept (fun z => u3.ownBlock = some z) w5 w8 := (Kept.of_below (S := fun z => u3.ownBlock = some z) BE6.out).then_ K68 (fun _ _ e => e)
      have K8 : Kept (fun z => u3.ownBlock = some z) wr w8 := (Kept.of_below (S := fun z => u3.ownBlock = some z) G7.out).then_ K78 (fun _ _ e => e)
      have zz := G7.out.size
      have HB : Hid (Below w.heap.size w w8) := hbw.out.trans (K8.to_below hwz (fun z hz e => by have := hog.out _ e; omega))
      have e1 : ElsG (fun z => wr.heap.size ≤ z ∧ z < w7.heap.size) w8 4 1000000 (GC (fun z => wr.heap.size ≤ z ∧ z < w7.heap.size) w8 1000000 m) B1 l1 (E.map Ex.gx) :=
        (O5.out.els HLE.out HB1.out).kept K58 (fun z _ hz e => by have := hol.out _ e; omega) (fun z hz h => ⟨by omega, by omega⟩) (fun cs g h => GC.kept K58 (fun z _ hz e => by have := hol.out _ e; omega) (fun z hz h => ⟨by omega, by omega⟩) _ _ _ h)
      have e2 : ElsG (fun z => wr.heap.size ≤ z ∧ z < w7.heap.size) w8 7 1000000 (RS (fun z => wr.heap.size ≤ z ∧ z < w7.heap.size) w8 q) B2 l2 L :=
        (O6.out.els (QR_kept q) HB2.out).kept K68 (fun z _ hz e => by have := hol.out _ e; omega) (fun z hz h => ⟨by omega, by omega⟩) (fun cs g h => RS.kept K68 (fun z _ hz e => by have := hol.out _ e; omega) (fun z hz h => ⟨by omega, by omega⟩) _ _ _ h)
      have e3 : ElsG (fun z => wr.heap.size ≤ z ∧ z < w7.heap.size) w8 7 1000000 (RS (fun z => wr.heap.size ≤ z ∧ z < w7.heap.size) w8 q) B3 l3 El :=
        (O7.out.els (QR_kept q) HB3.out).kept K78 (fun z _ hz e => by have := hol.out _ e; omega) (fun z hz h => ⟨by omega, by omega⟩) (fun cs g h => RS.kept K78 (fun z _ hz e => by have := hol.out _ e; omega) (fun z hz h => ⟨by omega, by omega⟩) _ _ _ h)
      have HO : Hid (OwnA 7 (QR (q + 1)) w8 w.heap.size 41 v8 (l.take (k + 1))) := by
        rw [HTK.out]
        have ho8 := O8.out
        have hy8 := HYL.out
        rw [← HTL.out] at ho8 hy8
        refine OwnA.push (QR_kept (q + 1)) ho8 hy8 rfl HONE.out ON.out HOLD.out (K8.mono fun z _ e => .inr e) (fun z hz hne e => ?_) (D := fun z => wr.heap.size ≤ z ∧ z < w7.heap.size) ⟨B1, l1, d1, B2, l2, d2, B3, l3, d3, m, by rw [HS.out], e1, e2, e3⟩ (fun z hz hd => ⟨by omega, fun e => ?_⟩)
        · rcases AT8.out with h | h
          · exact hne (h ▸ e)
          · rw [h] at e
            have e := Option.some.inj e
            have : (w7.alloc (.cells #[.int .i64 kind, .string S, .slice B1 l1 d1, .int .i64 lo, .int .i64 hi, .slice B2 l2 d2, .slice B3 l3 d3] 41)).heap.size = w7.heap.size + 1 := by simp
            omega
        · rcases AT8.out with h | h
          · have := hol.out z (h ▸ e)
            omega
          · rw [h] at e
            have e := Option.some.inj e
            have : (w7.alloc (.cells #[.int .i64 kind, .string S, .slice B1 l1 d1, .int .i64 lo, .int .i64 hi, .slice B2 l2 d2, .slice B3 l3 d3] 41)).heap.size = w7.heap.size + 1 := by simp
            omega
      clear q8 y5 y6 y7 K78 K68 K58 K8 e1 e2 e3 qq
      go_wp2_with fail
      go_roundw
      case rel => exact ⟨k + 1, by omega, by go_num, HO, HB⟩
      case measure => simp [intOf]; omega
    · obtain rfl : k = len := by omega
      have hll : l.take k = l := by rw [List.take_of_length_le (by rw [HK.out]; exact Nat.le_refl _)]
      have HLL := Lib.hid hll
      obtain ⟨A', c', hv⟩ := ho.out.slice
      rw [hll, HK.out] at hv
      have HO := Lib.hid ho.out
      subst hv
      clear ho hll
      go_wp2_with fail
      go_ret
      exact ⟨_, _, rfl, hbw.out, by have := HO.out; rw [HLL.out] at this; exact this⟩
theorem stmts_any : ∀ n, StmtsOk n
  | 0 => stmts_step 0 (fun q h => absurd h (by omega))
  | n + 1 => stmts_step (n + 1) (fun q h => by
    obtain rfl : n = q := by omega
    exact stmts_any n)
end Go.Proofs.YtdmlnoeneoomfaaDoor
namespace Go.Proofs.YtdmlnoeneoomfaaDoor
open Go.RowKit

/-- A document's program's eleven cells. -/
def PD : Cel Pg := fun D w cs p => ∃ v1 v2 v3 v4 v5 v6 v7 v8 : Value, cs = [.string (str p.nm), .int .i64 p.seats, v1, v2, v3, v4, v5, v6, .string (str p.silent), v7, v8] ∧ RowD D 1 QI w p.stakes v1 ∧ RowD D 4 QV w p.vars v2 ∧ RowD D 7 (QR 16) w p.start v3 ∧ RowD D 7 (QR 16) w p.turn v4 ∧ RowD D 4 QV w p.params v5 ∧ RowD D 7 (QR 16) w p.play v6 ∧ RowD D 7 (QR 16) w p.quiet v7 ∧ RowD D 7 (QR 16) w p.pays v8
theorem PD_kept : QKept PD := fun D E S w w' cs p hk hs hE h => by
  obtain ⟨v1, v2, v3, v4, v5, v6, v7, v8, h0, h1, h2, h3, h4, h5, h6, h7, h8⟩ := h
  exact ⟨v1, v2, v3, v4, v5, v6, v7, v8, h0, h1.kept QI_kept hk hs hE, h2.kept QV_kept hk hs hE, h3.kept (QR_kept 16) hk hs hE, h4.kept (QR_kept 16) hk hs hE, h5.kept QV_kept hk hs hE, h6.kept (QR_kept 16) hk hs hE, h7.kept (QR_kept 16) hk hs hE, h8.kept (QR_kept 16) hk hs hE⟩
theorem PD.below {w w' : World} {cs : List Value} {p : Pg} (h : PD (fun _ => True) w cs p) (hb : Below w.heap.size w w') : PD (fun _ => True) w' cs p := PD_kept _ _ (fun _ => False) w w' cs p (Kept.of_below hb) (fun _ _ _ h => h) (fun _ _ h => h) h
theorem RowD.elsD {α : Type} {D : Nat → Prop} {s : Nat} {Q : Cel α} {w : World} {l : List α} {A : Option Addr} {n c : Nat} (h : RowD D s Q w l (.slice A n c)) : ElsG D w s 1000000 (Q D w) A n l := by
  obtain ⟨A', n', c', hv, h⟩ := h
  injection hv with h1 h2 h3
  subst h1
  subst h2
  exact h
theorem OwnA.rowT {α : Type} {s : Nat} {Q : Cel α} (hq : QKept Q) {w w' : World} {base : Nat} {t : TypeId} {A : Option Addr} {n c : Nat} {l : List α} {S : Nat → Prop} (h : OwnA s Q w base t (.slice A n c) l) (hM : n ≤ 1000000) (hk : Kept S w w') (hs : ∀ k, k < w.heap.size → base ≤ k → ¬ S k) : RowD (fun _ => True) s Q w' l (.slice A n c) :=
  RowD.kept hq (D := fun z => base ≤ z) hk (fun k hk' hb => hs k hk' hb) (fun _ _ _ => trivial) ⟨A, n, c, rfl, h.els hq hM⟩
def ToTo (w : World) (p : Pg) (e : Ending) (w' : World) : Prop := ∃ (nm : ByteArray) (seats : Int) (sil : ByteArray) (A1 : Option Addr) (n1 c1 : Nat) (A2 : Option Addr) (n2 c2 : Nat) (A3 : Option Addr) (n3 c3 : Nat) (A4 : Option Addr) (n4 c4 : Nat) (A5 : Option Addr) (n5 c5 : Nat) (A6 : Option Addr) (n6 c6 : Nat) (A7 : Option Addr) (n7 c7 : Nat) (A8 : Option Addr) (n8 c8 : Nat), e = .returned (.agg #[.string nm, .int .i64 seats, .slice A1 n1 c1, .slice A2 n2 c2, .slice A3 n3 c3, .slice A4 n4 c4, .slice A5 n5 c5, .slice A6 n6 c6, .string sil, .slice A7 n7 c7, .slice A8 n8 c8]) ∧ Below w.heap.size w w' ∧ PD (fun _ => True) w' [.string nm, .int .i64 seats, .slice A1 n1 c1, .slice A2 n2 c2, .slice A3 n3 c3, .slice A4 n4 c4, .slice A5 n5 c5, .slice A6 n6 c6, .string sil, .slice A7 n7 c7, .slice A8 n8 c8] p
set_option maxHeartbeats 8000000 in
set_option maxRecDepth 100000 in
theorem To_any (D : Nat → Prop) (nm : ByteArray) (seats : Int) (sil : ByteArray) (A1 : Option Addr) (n1 c1 : Nat) (A2 : Option Addr) (n2 c2 : Nat) (A3 : Option Addr) (n3 c3 : Nat) (A4 : Option Addr) (n4 c4 : Nat) (A5 : Option Addr) (n5 c5 : Nat) (A6 : Option Addr) (n6 c6 : Nat) (A7 : Option Addr) (n7 c7 : Nat) (A8 : Option Addr) (n8 c8 : Nat) (p : Pg) (w : World) (h : PC D w [.string nm, .int .i64 seats, .slice A1 n1 c1, .slice A2 n2 c2, .slice A3 n3 c3, .slice A4 n4 c4, .slice A5 n5 c5, .slice A6 n6 c6, .string sil, .slice A7 n7 c7, .slice A8 n8 c8] p) :
    Calls Tryd.prog 19 #[.agg #[.string nm, .int .i64 seats, .slice A1 n1 c1, .slice A2 n2 c2, .slice A3 n3 c3, .slice A4 n4 c4, .slice A5 n5 c5, .slice A6 n6 c6, .string sil, .slice A7 n7 c7, .slice A8 n8 c8]] w (ToTo w p) := by
  obtain ⟨v1, v2, v3, v4, v5, v6, v7, v8, h0, r1, r2, r3, r4, r5, r6, r7, r8⟩ := h
  simp only [List.cons.injEq, and_true] at h0
  obtain ⟨e0, e1, rfl, rfl, rfl, rfl, rfl, rfl, e8, rfl, rfl⟩ := h0
  have H2 := r2.elsD
  have M2 : n2 ≤ 1000000 := by obtain ⟨_, _, _, h, _, _⟩ := H2; exact h
  have C2 : Hid (∀ W, Below w.heap.size w W → Calls Tryd.prog 40 #[.slice A2 n2 c2] W (VarsTo W p.vars n2)) := fun W hW => vars_any D A2 n2 c2 _ W (H2.kept (Kept.of_below (S := fun _ => False) hW) (fun _ _ _ h => h) (fun _ _ h => h) (fun cs a h => QV_kept D D _ w W cs a (Kept.of_below (S := fun _ => False) hW) (fun _ _ _ h => h) (fun _ _ h => h) h))
  have HM2 := Lib.hid M2
  have H3 := r3.elsD
  have M3 : n3 ≤ 1000000 := by obtain ⟨_, _, _, h, _, _⟩ := H3; exact h
  have C3 : Hid (∀ W, Below w.heap.size w W → Calls Tryd.prog 41 #[.slice A3 n3 c3] W (StmtsTo W 16 p.start n3)) := fun W hW => stmts_any 16 D A3 n3 c3 _ W (H3.kept (Kept.of_below (S := fun _ => False) hW) (fun _ _ _ h => h) (fun _ _ h => h) (SE.kept (Kept.of_below (S := fun _ => False) hW) (fun _ _ _ h => h) (fun _ _ h => h) 16))
  have HM3 := Lib.hid M3
  have H4 := r4.elsD
  have M4 : n4 ≤ 1000000 := by obtain ⟨_, _, _, h, _, _⟩ := H4; exact h
  have C4 : Hid (∀ W, Below w.heap.size w W → Calls Tryd.prog 41 #[.slice A4 n4 c4] W (StmtsTo W 16 p.turn n4)) := fun W hW => stmts_any 16 D A4 n4 c4 _ W (H4.kept (Kept.of_below (S := fun _ => False) hW) (fun _ _ _ h => h) (fun _ _ h => h) (SE.kept (Kept.of_below (S := fun _ => False) hW) (fun _ _ _ h => h) (fun _ _ h => h) 16))
  have HM4 := Lib.hid M4
  have H5 := r5.elsD
  have M5 : n5 ≤ 1000000 := by obtain ⟨_, _, _, h, _, _⟩ := H5; exact h
  have C5 : Hid (∀ W, Below w.heap.size w W → Calls Tryd.prog 40 #[.slice A5 n5 c5] W (VarsTo W p.params n5)) := fun W hW => vars_any D A5 n5 c5 _ W (H5.kept (Kept.of_below (S := fun _ => False) hW) (fun _ _ _ h => h) (fun _ _ h => h) (fun cs a h => QV_kept D D _ w W cs a (Kept.of_below (S := fun _ => False) hW) (fun _ _ _ h => h) (fun _ _ h => h) h))
  have HM5 := Lib.hid M5
  have H6 := r6.elsD
  have M6 : n6 ≤ 1000000 := by obtain ⟨_, _, _, h, _, _⟩ := H6; exact h
  have C6 : Hid (∀ W, Below w.heap.size w W → Calls Tryd.prog 41 #[.slice A6 n6 c6] W (StmtsTo W 16 p.play n6)) := fun W hW => stmts_any 16 D A6 n6 c6 _ W (H6.kept (Kept.of_below (S := fun _ => False) hW) (fun _ _ _ h => h) (fun _ _ h => h) (SE.kept (Kept.of_below (S := fun _ => False) hW) (fun _ _ _ h => h) (fun _ _ h => h) 16))
  have HM6 := Lib.hid M6
  have H7 := r7.elsD
  have M7 : n7 ≤ 1000000 := by obtain ⟨_, _, _, h, _, _⟩ := H7; exact h
  have C7 : Hid (∀ W, Below w.heap.size w W → Calls Tryd.prog 41 #[.slice A7 n7 c7] W (StmtsTo W 16 p.quiet n7)) := fun W hW => stmts_any 16 D A7 n7 c7 _ W (H7.kept (Kept.of_below (S := fun _ => False) hW) (fun _ _ _ h => h) (fun _ _ h => h) (SE.kept (Kept.of_below (S := fun _ => False) hW) (fun _ _ _ h => h) (fun _ _ h => h) 16))
  have HM7 := Lib.hid M7
  have H8 := r8.elsD
  have M8 : n8 ≤ 1000000 := by obtain ⟨_, _, _, h, _, _⟩ := H8; exact h
  have C8 : Hid (∀ W, Below w.heap.size w W → Calls Tryd.prog 41 #[.slice A8 n8 c8] W (StmtsTo W 16 p.pays n8)) := fun W hW => stmts_any 16 D A8 n8 c8 _ W (H8.kept (Kept.of_below (S := fun _ => False) hW) (fun _ _ _ h => h) (fun _ _ h => h) (SE.kept (Kept.of_below (S := fun _ => False) hW) (fun _ _ _ h => h) (fun _ _ h => h) 16))
  have HM8 := Lib.hid M8
  have R1 := Lib.hid r1
  have E0 := Lib.hid e0
  have E1 := Lib.hid e1
  have E8 := Lib.hid e8
  clear H2 M2 r2 H3 M3 r3 H4 M4 r4 H5 M5 r5 H6 M6 r6 H7 M7 r7 H8 M8 r8 r1 e0 e1 e8
  have f0 : Below w.heap.size w ((w.alloc (.cells #[.string nm, .int .i64 seats, .slice A1 n1 c1, .slice A2 n2 c2, .slice A3 n3 c3, .slice A4 n4 c4, .slice A5 n5 c5, .slice A6 n6 c6, .string sil, .slice A7 n7 c7, .slice A8 n8 c8] 54)).alloc (.cells #[.string ⟨#[]⟩, .int .i64 0, .slice none 0 0, .slice none 0 0, .slice none 0 0, .slice none 0 0, .slice none 0 0, .slice none 0 0, .string ⟨#[]⟩, .slice none 0 0, .slice none 0 0] 62)) := ((Below.refl _ w).al _).alloc (by simp) _
  obtain ⟨y0, x0⟩ := two_new w 54 62 #[.string nm, .int .i64 seats, .slice A1 n1 c1, .slice A2 n2 c2, .slice A3 n3 c3, .slice A4 n4 c4, .slice A5 n5 c5, .slice A6 n6 c6, .string sil, .slice A7 n7 c7, .slice A8 n8 c8] #[.string ⟨#[]⟩, .int .i64 0, .slice none 0 0, .slice none 0 0, .slice none 0 0, .slice none 0 0, .slice none 0 0, .slice none 0 0, .string ⟨#[]⟩, .slice none 0 0, .slice none 0 0]
  have zA : ((w.alloc (.cells #[.string nm, .int .i64 seats, .slice A1 n1 c1, .slice A2 n2 c2, .slice A3 n3 c3, .slice A4 n4 c4, .slice A5 n5 c5, .slice A6 n6 c6, .string sil, .slice A7 n7 c7, .slice A8 n8 c8] 54)).alloc (.cells #[.string ⟨#[]⟩, .int .i64 0, .slice none 0 0, .slice none 0 0, .slice none 0 0, .slice none 0 0, .slice none 0 0, .slice none 0 0, .string ⟨#[]⟩, .slice none 0 0, .slice none 0 0] 62)).heap.size = w.heap.size + 2 := by simp
  go_enter Tryd.func19, Tryd.ntmps19
  go_upto_region 1 with fail
  generalize (w.alloc (.cells #[.string nm, .int .i64 seats, .slice A1 n1 c1, .slice A2 n2 c2, .slice A3 n3 c3, .slice A4 n4 c4, .slice A5 n5 c5, .slice A6 n6 c6, .string sil, .slice A7 n7 c7, .slice A8 n8 c8] 54)).alloc (.cells #[.string ⟨#[]⟩, .int .i64 0, .slice none 0 0, .slice none 0 0, .slice none 0 0, .slice none 0 0, .slice none 0 0, .slice none 0 0, .string ⟨#[]⟩, .slice none 0 0, .slice none 0 0] 62) = W0 at *
  have FD := Lib.hid f0.drew
  have qq : W0.drew.cell? ⟨w.heap.size, 0, none⟩ = some (.string nm) ∧ W0.drew.cell? ⟨w.heap.size, 1, none⟩ = some (.int .i64 seats) ∧ W0.drew.cell? ⟨w.heap.size, 2, none⟩ = some (.slice A1 n1 c1) ∧ W0.drew.cell? ⟨w.heap.size, 3, none⟩ = some (.slice A2 n2 c2) ∧ W0.drew.cell? ⟨w.heap.size, 4, none⟩ = some (.slice A3 n3 c3) ∧ W0.drew.cell? ⟨w.heap.size, 5, none⟩ = some (.slice A4 n4 c4) ∧ W0.drew.cell? ⟨w.heap.size, 6, none⟩ = some (.slice A5 n5 c5) ∧ W0.drew.cell? ⟨w.heap.size, 7, none⟩ = some (.slice A6 n6 c6) ∧ W0.drew.cell? ⟨w.heap.size, 8, none⟩ = some (.string sil) ∧ W0.drew.cell? ⟨w.heap.size, 9, none⟩ = some (.slice A7 n7 c7) ∧ W0.drew.cell? ⟨w.heap.size, 10, none⟩ = some (.slice A8 n8 c8) := ⟨y0.cell 0, y0.cell 1, y0.cell 2, y0.cell 3, y0.cell 4, y0.cell 5, y0.cell 6, y0.cell 7, y0.cell 8, y0.cell 9, y0.cell 10⟩
  have qB : Hid (∀ W, Blk W w.heap.size 54 #[.string nm, .int .i64 seats, .slice A1 n1 c1, .slice A2 n2 c2, .slice A3 n3 c3, .slice A4 n4 c4, .slice A5 n5 c5, .slice A6 n6 c6, .string sil, .slice A7 n7 c7, .slice A8 n8 c8] → W.cell? ⟨w.heap.size, 0, none⟩ = some (.string nm) ∧ W.cell? ⟨w.heap.size, 1, none⟩ = some (.int .i64 seats) ∧ W.cell? ⟨w.heap.size, 2, none⟩ = some (.slice A1 n1 c1) ∧ W.cell? ⟨w.heap.size, 3, none⟩ = some (.slice A2 n2 c2) ∧ W.cell? ⟨w.heap.size, 4, none⟩ = some (.slice A3 n3 c3) ∧ W.cell? ⟨w.heap.size, 5, none⟩ = some (.slice A4 n4 c4) ∧ W.cell? ⟨w.heap.size, 6, none⟩ = some (.slice A5 n5 c5) ∧ W.cell? ⟨w.heap.size, 7, none⟩ = some (.slice A6 n6 c6) ∧ W.cell? ⟨w.heap.size, 8, none⟩ = some (.string sil) ∧ W.cell? ⟨w.heap.size, 9, none⟩ = some (.slice A7 n7 c7) ∧ W.cell? ⟨w.heap.size, 10, none⟩ = some (.slice A8 n8 c8)) := fun W h => ⟨h.cell 0, h.cell 1, h.cell 2, h.cell 3, h.cell 4, h.cell 5, h.cell 6, h.cell 7, h.cell 8, h.cell 9, h.cell 10⟩
  have yD := Lib.hid y0.drew
  have xD := Lib.hid x0.drew
  have zz : W0.drew.heap.size = w.heap.size + 2 := zA
  clear f0 y0 x0
  go_region_held3 (fun w' => w'.cell? ⟨w.heap.size, 0, none⟩ = some (.string nm) ∧ w'.cell? ⟨w.heap.size, 1, none⟩ = some (.int .i64 seats) ∧ w'.cell? ⟨w.heap.size, 2, none⟩ = some (.slice A1 n1 c1) ∧ w'.cell? ⟨w.heap.size, 3, none⟩ = some (.slice A2 n2 c2) ∧ w'.cell? ⟨w.heap.size, 4, none⟩ = some (.slice A3 n3 c3) ∧ w'.cell? ⟨w.heap.size, 5, none⟩ = some (.slice A4 n4 c4) ∧ w'.cell? ⟨w.heap.size, 6, none⟩ = some (.slice A5 n5 c5) ∧ w'.cell? ⟨w.heap.size, 7, none⟩ = some (.slice A6 n6 c6) ∧ w'.cell? ⟨w.heap.size, 8, none⟩ = some (.string sil) ∧ w'.cell? ⟨w.heap.size, 9, none⟩ = some (.slice A7 n7 c7) ∧ w'.cell? ⟨w.heap.size, 10, none⟩ = some (.slice A8 n8 c8)) (first | (with_reducible exact qq) | (with_reducible exact qB.out _ y2) | (with_reducible exact qB.out _ y3) | (with_reducible exact qB.out _ y4) | (with_reducible exact qB.out _ y5) | (with_reducible exact qB.out _ y6) | (with_reducible exact qB.out _ y7) | (with_reducible exact qB.out _ y8) | (with_reducible exact qB.out _ (y8.kept (Kept.put11 _ _ _ _ _ _ _ _ _ _ _ _ _) (by omega))))
    (first
    | (go_at_call 40; (with_reducible refine (C2.out _ FD.out).mono ?_); rintro e w2 ⟨B2, d2, rfl, b2, o2⟩; have y2 := yD.out.below b2 yD.out.lt; have x2 := xD.out.below b2 xD.out.lt; have F2 := Lib.hid (FD.out.trans (b2.mono FD.out.size)); have O2 := Lib.hid o2; have BE2 := Lib.hid b2; have z2 := b2.size; clear o2 b2)
    | (go_at_call 41; (with_reducible refine (C3.out _ F2.out).mono ?_); rintro e w3 ⟨B3, d3, rfl, b3, o3⟩; have y3 := y2.below b3 y2.lt; have x3 := x2.below b3 x2.lt; have F3 := Lib.hid (F2.out.trans (b3.mono F2.out.size)); have O3 := Lib.hid o3; have BE3 := Lib.hid b3; have z3 := b3.size; clear o3 b3)
    | (go_at_call 41; (with_reducible refine (C4.out _ F3.out).mono ?_); rintro e w4 ⟨B4, d4, rfl, b4, o4⟩; have y4 := y3.below b4 y3.lt; have x4 := x3.below b4 x3.lt; have F4 := Lib.hid (F3.out.trans (b4.mono F3.out.size)); have O4 := Lib.hid o4; have BE4 := Lib.hid b4; have z4 := b4.size; clear o4 b4)
    | (go_at_call 40; (with_reducible refine (C5.out _ F4.out).mono ?_); rintro e w5 ⟨B5, d5, rfl, b5, o5⟩; have y5 := y4.below b5 y4.lt; have x5 := x4.below b5 x4.lt; have F5 := Lib.hid (F4.out.trans (b5.mono F4.out.size)); have O5 := Lib.hid o5; have BE5 := Lib.hid b5; have z5 := b5.size; clear o5 b5)
    | (go_at_call 41; (with_reducible refine (C6.out _ F5.out).mono ?_); rintro e w6 ⟨B6, d6, rfl, b6, o6⟩; have y6 := y5.below b6 y5.lt; have x6 := x5.below b6 x5.lt; have F6 := Lib.hid (F5.out.trans (b6.mono F5.out.size)); have O6 := Lib.hid o6; have BE6 := Lib.hid b6; have z6 := b6.size; clear o6 b6)
    | (go_at_call 41; (with_reducible refine (C7.out _ F6.out).mono ?_); rintro e w7 ⟨B7, d7, rfl, b7, o7⟩; have y7 := y6.below b7 y6.lt; have x7 := x6.below b7 x6.lt; have F7 := Lib.hid (F6.out.trans (b7.mono F6.out.size)); have O7 := Lib.hid o7; have BE7 := Lib.hid b7; have z7 := b7.size; clear o7 b7)
    | (go_at_call 41; (with_reducible refine (C8.out _ F7.out).mono ?_); rintro e w8 ⟨B8, d8, rfl, b8, o8⟩; have y8 := y7.below b8 y7.lt; have x8 := x7.below b8 x7.lt; have F8 := Lib.hid (F7.out.trans (b8.mono F7.out.size)); have O8 := Lib.hid o8; have BE8 := Lib.hid b8; have z8 := b8.size; clear o8 b8; have sc0 : w8.cell? ⟨w.heap.size + 1, 0, none⟩ = some (.string ⟨#[]⟩) := x8.cell 0; have tc0 := x8.frozen 0; have sc1 : w8.cell? ⟨w.heap.size + 1, 1, none⟩ = some (.int .i64 0) := x8.cell 1; have tc1 := x8.frozen 1; have sc2 : w8.cell? ⟨w.heap.size + 1, 2, none⟩ = some (.slice none 0 0) := x8.cell 2; have tc2 := x8.frozen 2; have sc3 : w8.cell? ⟨w.heap.size + 1, 3, none⟩ = some (.slice none 0 0) := x8.cell 3; have tc3 := x8.frozen 3; have sc4 : w8.cell? ⟨w.heap.size + 1, 4, none⟩ = some (.slice none 0 0) := x8.cell 4; have tc4 := x8.frozen 4; have sc5 : w8.cell? ⟨w.heap.size + 1, 5, none⟩ = some (.slice none 0 0) := x8.cell 5; have tc5 := x8.frozen 5; have sc6 : w8.cell? ⟨w.heap.size + 1, 6, none⟩ = some (.slice none 0 0) := x8.cell 6; have tc6 := x8.frozen 6; have sc7 : w8.cell? ⟨w.heap.size + 1, 7, none⟩ = some (.slice none 0 0) := x8.cell 7; have tc7 := x8.frozen 7; have sc8 : w8.cell? ⟨w.heap.size + 1, 8, none⟩ = some (.string ⟨#[]⟩) := x8.cell 8; have tc8 := x8.frozen 8; have sc9 : w8.cell? ⟨w.heap.size + 1, 9, none⟩ = some (.slice none 0 0) := x8.cell 9; have tc9 := x8.frozen 9; have sc10 : w8.cell? ⟨w.heap.size + 1, 10, none⟩ = some (.slice none 0 0) := x8.cell 10; have tc10 := x8.frozen 10))
  clear sc0 sc1 sc2 sc3 sc4 sc5 sc6 sc7 sc8 sc9 sc10
  have X9 := x8.put11 (.string nm) (.int .i64 seats) (.slice A1 n1 c1) (.slice B2 n2 d2) (.slice B3 n3 d3) (.slice B4 n4 d4) (.slice B5 n5 d5) (.slice B6 n6 d6) (.string sil) (.slice B7 n7 d7) (.slice B8 n8 d8)
  have K9 := Kept.put11 w8 (w.heap.size + 1) (.string nm) (.int .i64 seats) (.slice A1 n1 c1) (.slice B2 n2 d2) (.slice B3 n3 d3) (.slice B4 n4 d4) (.slice B5 n5 d5) (.slice B6 n6 d6) (.string sil) (.slice B7 n7 d7) (.slice B8 n8 d8)
  go_wp2_with fail
  generalize ((((((((((w8.setCell ⟨w.heap.size + 1, 0, none⟩ (.string nm)).setCell ⟨w.heap.size + 1, 1, none⟩ (.int .i64 seats)).setCell ⟨w.heap.size + 1, 2, none⟩ (.slice A1 n1 c1)).setCell ⟨w.heap.size + 1, 3, none⟩ (.slice B2 n2 d2)).setCell ⟨w.heap.size + 1, 4, none⟩ (.slice B3 n3 d3)).setCell ⟨w.heap.size + 1, 5, none⟩ (.slice B4 n4 d4)).setCell ⟨w.heap.size + 1, 6, none⟩ (.slice B5 n5 d5)).setCell ⟨w.heap.size + 1, 7, none⟩ (.slice B6 n6 d6)).setCell ⟨w.heap.size + 1, 8, none⟩ (.string sil)).setCell ⟨w.heap.size + 1, 9, none⟩ (.slice B7 n7 d7)).setCell ⟨w.heap.size + 1, 10, none⟩ (.slice B8 n8 d8) = W9 at *
  have sc0 : W9.cell? ⟨w.heap.size + 1, 0, none⟩ = some (.string nm) := X9.cell 0
  have sc1 : W9.cell? ⟨w.heap.size + 1, 1, none⟩ = some (.int .i64 seats) := X9.cell 1
  have sc2 : W9.cell? ⟨w.heap.size + 1, 2, none⟩ = some (.slice A1 n1 c1) := X9.cell 2
  have sc3 : W9.cell? ⟨w.heap.size + 1, 3, none⟩ = some (.slice B2 n2 d2) := X9.cell 3
  have sc4 : W9.cell? ⟨w.heap.size + 1, 4, none⟩ = some (.slice B3 n3 d3) := X9.cell 4
  have sc5 : W9.cell? ⟨w.heap.size + 1, 5, none⟩ = some (.slice B4 n4 d4) := X9.cell 5
  have sc6 : W9.cell? ⟨w.heap.size + 1, 6, none⟩ = some (.slice B5 n5 d5) := X9.cell 6
  have sc7 : W9.cell? ⟨w.heap.size + 1, 7, none⟩ = some (.slice B6 n6 d6) := X9.cell 7
  have sc8 : W9.cell? ⟨w.heap.size + 1, 8, none⟩ = some (.string sil) := X9.cell 8
  have sc9 : W9.cell? ⟨w.heap.size + 1, 9, none⟩ = some (.slice B7 n7 d7) := X9.cell 9
  have sc10 : W9.cell? ⟨w.heap.size + 1, 10, none⟩ = some (.slice B8 n8 d8) := X9.cell 10
  have hsz := F8.out.size
  have FW : Below w.heap.size w W9 := F8.out.trans (K9.to_below (by omega) (fun z hz e => by omega))
  have T8 : Kept (fun z => z = w.heap.size + 1) w8 W9 := K9
  have T7 : Kept (fun z => z = w.heap.size + 1) w7 W9 := (Kept.of_below (S := fun z => z = w.heap.size + 1) BE8.out).then_ T8 (fun _ _ e => e)
  have T6 : Kept (fun z => z = w.heap.size + 1) w6 W9 := (Kept.of_below (S := fun z => z = w.heap.size + 1) BE7.out).then_ T7 (fun _ _ e => e)
  have T5 : Kept (fun z => z = w.heap.size + 1) w5 W9 := (Kept.of_below (S := fun z => z = w.heap.size + 1) BE6.out).then_ T6 (fun _ _ e => e)
  have T4 : Kept (fun z => z = w.heap.size + 1) w4 W9 := (Kept.of_below (S := fun z => z = w.heap.size + 1) BE5.out).then_ T5 (fun _ _ e => e)
  have T3 : Kept (fun z => z = w.heap.size + 1) w3 W9 := (Kept.of_below (S := fun z => z = w.heap.size + 1) BE4.out).then_ T4 (fun _ _ e => e)
  have T2 : Kept (fun z => z = w.heap.size + 1) w2 W9 := (Kept.of_below (S := fun z => z = w.heap.size + 1) BE3.out).then_ T3 (fun _ _ e => e)
  refine bodyPost_ret (v := .agg #[.string nm, .int .i64 seats, .slice A1 n1 c1, .slice B2 n2 d2, .slice B3 n3 d3, .slice B4 n4 d4, .slice B5 n5 d5, .slice B6 n6 d6, .string sil, .slice B7 n7 d7, .slice B8 n8 d8]) (by simp [results, Tryd.results19, go_sem, sc0, sc1, sc2, sc3, sc4, sc5, sc6, sc7, sc8, sc9, sc10]) rfl ⟨_, _, _, _, _, _, _, _, _, _, _, _, _, _, _, _, _, _, _, _, _, _, _, _, _, _, _, rfl, FW, .slice A1 n1 c1, .slice B2 n2 d2, .slice B3 n3 d3, .slice B4 n4 d4, .slice B5 n5 d5, .slice B6 n6 d6, .slice B7 n7 d7, .slice B8 n8 d8, ?_, ?_, O2.out.rowT QV_kept HM2.out T2 (fun z _ hz e => by omega), O3.out.rowT (QR_kept 16) HM3.out T3 (fun z _ hz e => by omega), O4.out.rowT (QR_kept 16) HM4.out T4 (fun z _ hz e => by omega), O5.out.rowT QV_kept HM5.out T5 (fun z _ hz e => by omega), O6.out.rowT (QR_kept 16) HM6.out T6 (fun z _ hz e => by omega), O7.out.rowT (QR_kept 16) HM7.out T7 (fun z _ hz e => by omega), O8.out.rowT (QR_kept 16) HM8.out T8 (fun z _ hz e => by omega)⟩
  · rw [E0.out, E1.out, E8.out]
  · exact RowD.kept QI_kept (Kept.of_below (S := fun _ => False) FW) (fun _ _ _ h => h) (fun _ _ _ => trivial) R1.out
end Go.Proofs.YtdmlnoeneoomfaaDoor
namespace Go.Proofs.YtdmlnoeneoomfaaDoor
open Go.RowKit

set_option maxHeartbeats 4000000 in
set_option maxRecDepth 100000 in
theorem samevars_any (D D' : Nat → Prop) (A A' : Option Addr) (len len' c c' : Nat) (l : List Va) (w : World) (h1 : ElsG D w 4 1000000 (QV D w) A len l) (h2 : ElsG D' w 4 1000000 (QV D' w) A' len' l) :
    Calls Tryd.prog 38 #[.slice A len c, .slice A' len' c'] w (Tells w true) := by
  obtain ⟨xs, r1, -, m1, n1, e1⟩ := h1
  obtain ⟨ys, r2, -, m2, n2, e2⟩ := h2
  obtain rfl : len' = len := by omega
  have R1 := Lib.hid r1
  have R2 := Lib.hid r2
  have N1 := Lib.hid n1
  have E1 := Lib.hid e1
  have E2 := Lib.hid e2
  clear r1 r2 n1 n2 e1 e2 m2
  go_enter Tryd.func38, Tryd.ntmps38
  go_wp2_with fail
  go_loopw [5] (fun i wr => ∃ k : Nat, k ≤ len' ∧ i = .int .i64 k ∧ Hid (Below w.heap.size w wr)) (fun i _ => len' - (intOf i).toNat)
  case atStart => exact ⟨0, by omega, rfl, Below.refl _ _⟩
  case round =>
    obtain ⟨k, hk, rfl, hb⟩ := hrel
    by_cases hlt : k < len'
    · have hkk : k < l.length := by rw [N1.out]; exact hlt
      have ec := E1.out k hkk
      have ed := E2.out k hkk
      generalize l[k] = g at *
      obtain ⟨nm, sz, lo, hi⟩ := g
      obtain ⟨S, hS⟩ : ∃ S, str nm = S := ⟨_, rfl⟩
      have hcs : (xs.drop (k * 4)).take 4 = [.string S, .int .i64 sz, .int .i64 lo, .int .i64 hi] := by rw [← hS]; exact ec
      have hcs' : (ys.drop (k * 4)).take 4 = [.string S, .int .i64 sz, .int .i64 lo, .int .i64 hi] := by rw [← hS]; exact ed
      obtain ⟨b1, o1, rfl, hb1, q⟩ := R1.out.chunk (by omega) hlt hcs
      obtain ⟨b2, o2, rfl, hb2, p⟩ := R2.out.chunk (by omega) hlt hcs'
      have q0 := (hb.out.cell (p := ⟨b1, o1 + k * 4, none⟩) hb1).trans (q 0 _ rfl)
      have p0 := (hb.out.cell (p := ⟨b2, o2 + k * 4, none⟩) hb2).trans (p 0 _ rfl)
      have q1 := (hb.out.cell (p := ⟨b1, o1 + k * 4 + 1, none⟩) hb1).trans (q 1 _ rfl)
      have p1 := (hb.out.cell (p := ⟨b2, o2 + k * 4 + 1, none⟩) hb2).trans (p 1 _ rfl)
      have q2 := (hb.out.cell (p := ⟨b1, o1 + k * 4 + 2, none⟩) hb1).trans (q 2 _ rfl)
      have p2 := (hb.out.cell (p := ⟨b2, o2 + k * 4 + 2, none⟩) hb2).trans (p 2 _ rfl)
      have q3 := (hb.out.cell (p := ⟨b1, o1 + k * 4 + 3, none⟩) hb1).trans (q 3 _ rfl)
      have p3 := (hb.out.cell (p := ⟨b2, o2 + k * 4 + 3, none⟩) hb2).trans (p 3 _ rfl)
      have g1 : (0 : Int) ≤ (k : Int) := by omega
      have g2 : (k : Int) < (len' : Int) := by omega
      clear q p hcs hcs' ec ed hS
      go_upto_region 6 with fail
      go_quiet (fail)
      go_wp2_with fail
      go_roundw
      case rel => exact ⟨k + 1, by omega, by go_num, below_drewN hb.out _⟩
      case measure => simp [intOf]; omega
    · obtain rfl : k = len' := by omega
      go_wp2_with fail
      go_ret
      exact ⟨rfl, hb.out⟩
def SameStOk (d : Nat) : Prop := ∀ (D D' : Nat → Prop) (A A' : Option Addr) (len len' c c' : Nat) (l : List St) (w : World), ElsG D w 7 1000000 (RS D w d) A len l → ElsG D' w 7 1000000 (RS D' w d) A' len' l →
  Calls Tryd.prog 39 #[.slice A len c, .slice A' len' c'] w (Tells w true)
theorem sames_gx {D D' : Nat → Prop} {A A' : Option Addr} {len len' c c' m m' : Nat} {l : List Gx} {w : World} (h1 : ElsG D w 4 1000000 (GC D w 1000000 m) A len l) (h2 : ElsG D' w 4 1000000 (GC D' w 1000000 m') A' len' l) : Calls Tryd.prog 24 #[.slice A len c, .slice A' len' c'] w (Tells w true) :=
  sames_step 1000000 (max m m') (by omega) (same_all 1000000 (by omega) _) D D' A A' len len' c c' l w (h1.kept (Kept.refl (fun _ => False) w) (fun _ _ _ h => h) (fun _ _ h => h) (fun _ _ h => h.deeper (Nat.le_max_left _ _))) (h2.kept (Kept.refl (fun _ => False) w) (fun _ _ _ h => h) (fun _ _ h => h) (fun _ _ h => h.deeper (Nat.le_max_right _ _)))
theorem ElsG.belowR {D : Nat → Prop} {w w' : World} {d len : Nat} {A : Option Addr} {l : List St} (h : ElsG D w 7 1000000 (RS D w d) A len l) (hb : Below w.heap.size w w') : ElsG D w' 7 1000000 (RS D w' d) A len l := h.kept (Kept.of_below (S := fun _ => False) hb) (fun _ _ _ h => h) (fun _ _ h => h) (RS.kept (Kept.of_below (S := fun _ => False) hb) (fun _ _ _ h => h) (fun _ _ h => h) d)
set_option maxHeartbeats 8000000 in
set_option maxRecDepth 100000 in
theorem samest_step (n : Nat) (H : ∀ q, n = q + 1 → SameStOk q) : SameStOk n := by
  intro D D' A A' len len' c c' l w h1 h2
  obtain ⟨xs, r1, -, m1, n1, e1⟩ := h1
  obtain ⟨ys, r2, -, m2, n2, e2⟩ := h2
  obtain rfl : len' = len := by omega
  have R1 := Lib.hid r1
  have R2 := Lib.hid r2
  have N1 := Lib.hid n1
  have E1 := Lib.hid e1
  have E2 := Lib.hid e2
  have HH := Lib.hid H
  clear r1 r2 n1 n2 e1 e2 m2 H
  go_enter Tryd.func39, Tryd.ntmps39
  go_wp2_with fail
  go_loopw [5] (fun i wr => ∃ k : Nat, k ≤ len' ∧ i = .int .i64 k ∧ Hid (Below w.heap.size w wr)) (fun i _ => len' - (intOf i).toNat)
  case atStart => exact ⟨0, by omega, rfl, Below.refl _ _⟩
  case round =>
    obtain ⟨k, hk, rfl, hb⟩ := hrel
    by_cases hlt : k < len'
    · have hkk : k < l.length := by rw [N1.out]; exact hlt
      have ec := E1.out k hkk
      have ed := E2.out k hkk
      obtain ⟨q, rfl⟩ : ∃ q, n = q + 1 := by
        cases n with
        | zero => exact absurd ec id
        | succ q => exact ⟨q, rfl⟩
      generalize l[k] = g at *
      obtain ⟨kind, nm, E, lo, hi, L, El⟩ := g
      obtain ⟨A1, l1, c1, A2, l2, c2, A3, l3, c3, mm, hcs, heE, heL, heS⟩ := ec
      obtain ⟨B1, i1, d1, B2, i2, d2, B3, i3, d3, mm', hcs', heE', heL', heS'⟩ := ed
      obtain ⟨S, hS⟩ : ∃ S, str nm = S := ⟨_, rfl⟩
      rw [hS] at hcs hcs'
      have CE := Lib.hid (fun W (hW : Below w.heap.size w W) => sames_gx (c := c1) (c' := d1) (ElsG.below heE hW) (ElsG.below heE' hW))
      have CL := Lib.hid (fun W (hW : Below w.heap.size w W) => HH.out q rfl D D' A2 B2 l2 i2 c2 d2 L W (heL.belowR hW) (heL'.belowR hW))
      have CS := Lib.hid (fun W (hW : Below w.heap.size w W) => HH.out q rfl D D' A3 B3 l3 i3 c3 d3 El W (heS.belowR hW) (heS'.belowR hW))
      obtain ⟨b1, o1, rfl, hb1, q⟩ := R1.out.chunk (by omega) hlt hcs
      obtain ⟨b2, o2, rfl, hb2, p⟩ := R2.out.chunk (by omega) hlt hcs'
      have q0 := (hb.out.cell (p := ⟨b1, o1 + k * 7, none⟩) hb1).trans (q 0 _ rfl)
      have p0 := (hb.out.cell (p := ⟨b2, o2 + k * 7, none⟩) hb2).trans (p 0 _ rfl)
      have q1 := (hb.out.cell (p := ⟨b1, o1 + k * 7 + 1, none⟩) hb1).trans (q 1 _ rfl)
      have p1 := (hb.out.cell (p := ⟨b2, o2 + k * 7 + 1, none⟩) hb2).trans (p 1 _ rfl)
      have q2 := (hb.out.cell (p := ⟨b1, o1 + k * 7 + 2, none⟩) hb1).trans (q 2 _ rfl)
      have p2 := (hb.out.cell (p := ⟨b2, o2 + k * 7 + 2, none⟩) hb2).trans (p 2 _ rfl)
      have q3 := (hb.out.cell (p := ⟨b1, o1 + k * 7 + 3, none⟩) hb1).trans (q 3 _ rfl)
      have p3 := (hb.out.cell (p := ⟨b2, o2 + k * 7 + 3, none⟩) hb2).trans (p 3 _ rfl)
      have q4 := (hb.out.cell (p := ⟨b1, o1 + k * 7 + 4, none⟩) hb1).trans (q 4 _ rfl)
      have p4 := (hb.out.cell (p := ⟨b2, o2 + k * 7 + 4, none⟩) hb2).trans (p 4 _ rfl)
      have q5 := (hb.out.cell (p := ⟨b1, o1 + k * 7 + 5, none⟩) hb1).trans (q 5 _ rfl)
      have p5 := (hb.out.cell (p := ⟨b2, o2 + k * 7 + 5, none⟩) hb2).trans (p 5 _ rfl)
      have q6 := (hb.out.cell (p := ⟨b1, o1 + k * 7 + 6, none⟩) hb1).trans (q 6 _ rfl)
      have p6 := (hb.out.cell (p := ⟨b2, o2 + k * 7 + 6, none⟩) hb2).trans (p 6 _ rfl)
      have hwz := hb.out.size
      have g1 : (0 : Int) ≤ (k : Int) := by omega
      have g2 : (k : Int) < (len' : Int) := by omega
      clear q p hcs hcs' heE heL heS heE' heL' heS' hS
      go_upto_region 6 with fail
      go_cut [6, 7] (fun v6 v7 wc => ∃ a b : Nat, v6 = .pointer (some ⟨a, 0, none⟩) ∧ v7 = .pointer (some ⟨b, 0, none⟩) ∧ Hid (Blk wc a 41 #[.int .i64 kind, .string S, .slice A1 l1 c1, .int .i64 lo, .int .i64 hi, .slice A2 l2 c2, .slice A3 l3 c3]) ∧ Hid (Blk wc b 41 #[.int .i64 kind, .string S, .slice B1 i1 d1, .int .i64 lo, .int .i64 hi, .slice B2 i2 d2, .slice B3 i3 d3]) ∧ Hid (Below wr.heap.size wr wc))
      case first =>
        have BW := Lib.hid ((Below.refl wr.heap.size wr).drew)
        have KQ : Hid (∀ W, Below wr.heap.size wr W → W.cell? ⟨b1, o1 + k * 7, none⟩ = some (.int .i64 kind) ∧ W.cell? ⟨b1, o1 + k * 7 + 1, none⟩ = some (.string S) ∧ W.cell? ⟨b1, o1 + k * 7 + 2, none⟩ = some (.slice A1 l1 c1) ∧ W.cell? ⟨b1, o1 + k * 7 + 3, none⟩ = some (.int .i64 lo) ∧ W.cell? ⟨b1, o1 + k * 7 + 4, none⟩ = some (.int .i64 hi) ∧ W.cell? ⟨b1, o1 + k * 7 + 5, none⟩ = some (.slice A2 l2 c2) ∧ W.cell? ⟨b1, o1 + k * 7 + 6, none⟩ = some (.slice A3 l3 c3) ∧ W.cell? ⟨b2, o2 + k * 7, none⟩ = some (.int .i64 kind) ∧ W.cell? ⟨b2, o2 + k * 7 + 1, none⟩ = some (.string S) ∧ W.cell? ⟨b2, o2 + k * 7 + 2, none⟩ = some (.slice B1 i1 d1) ∧ W.cell? ⟨b2, o2 + k * 7 + 3, none⟩ = some (.int .i64 lo) ∧ W.cell? ⟨b2, o2 + k * 7 + 4, none⟩ = some (.int .i64 hi) ∧ W.cell? ⟨b2, o2 + k * 7 + 5, none⟩ = some (.slice B2 i2 d2) ∧ W.cell? ⟨b2, o2 + k * 7 + 6, none⟩ = some (.slice B3 i3 d3)) := fun W hW => ⟨(hW.cell (p := ⟨b1, _, none⟩) (by show b1 < _; omega)).trans q0, (hW.cell (p := ⟨b1, _, none⟩) (by show b1 < _; omega)).trans q1, (hW.cell (p := ⟨b1, _, none⟩) (by show b1 < _; omega)).trans q2, (hW.cell (p := ⟨b1, _, none⟩) (by show b1 < _; omega)).trans q3, (hW.cell (p := ⟨b1, _, none⟩) (by show b1 < _; omega)).trans q4, (hW.cell (p := ⟨b1, _, none⟩) (by show b1 < _; omega)).trans q5, (hW.cell (p := ⟨b1, _, none⟩) (by show b1 < _; omega)).trans q6, (hW.cell (p := ⟨b2, _, none⟩) (by show b2 < _; omega)).trans p0, (hW.cell (p := ⟨b2, _, none⟩) (by show b2 < _; omega)).trans p1, (hW.cell (p := ⟨b2, _, none⟩) (by show b2 < _; omega)).trans p2, (hW.cell (p := ⟨b2, _, none⟩) (by show b2 < _; omega)).trans p3, (hW.cell (p := ⟨b2, _, none⟩) (by show b2 < _; omega)).trans p4, (hW.cell (p := ⟨b2, _, none⟩) (by show b2 < _; omega)).trans p5, (hW.cell (p := ⟨b2, _, none⟩) (by show b2 < _; omega)).trans p6⟩
        refine wp_region_held_drew (S := (fun w' => w'.cell? ⟨b1, o1 + k * 7, none⟩ = some (.int .i64 kind) ∧ w'.cell? ⟨b1, o1 + k * 7 + 1, none⟩ = some (.string S) ∧ w'.cell? ⟨b1, o1 + k * 7 + 2, none⟩ = some (.slice A1 l1 c1) ∧ w'.cell? ⟨b1, o1 + k * 7 + 3, none⟩ = some (.int .i64 lo) ∧ w'.cell? ⟨b1, o1 + k * 7 + 4, none⟩ = some (.int .i64 hi) ∧ w'.cell? ⟨b1, o1 + k * 7 + 5, none⟩ = some (.slice A2 l2 c2) ∧ w'.cell? ⟨b1, o1 + k * 7 + 6, none⟩ = some (.slice A3 l3 c3) ∧ w'.cell? ⟨b2, o2 + k * 7, none⟩ = some (.int .i64 kind) ∧ w'.cell? ⟨b2, o2 + k * 7 + 1, none⟩ = some (.string S) ∧ w'.cell? ⟨b2, o2 + k * 7 + 2, none⟩ = some (.slice B1 i1 d1) ∧ w'.cell? ⟨b2, o2 + k * 7 + 3, none⟩ = some (.int .i64 lo) ∧ w'.cell? ⟨b2, o2 + k * 7 + 4, none⟩ = some (.int .i64 hi) ∧ w'.cell? ⟨b2, o2 + k * 7 + 5, none⟩ = some (.slice B2 i2 d2) ∧ w'.cell? ⟨b2, o2 + k * 7 + 6, none⟩ = some (.slice B3 i3 d3))) (by kernel_rfl) (KQ.out _ BW.out) (fun hHeld => ?_)
        generalize wr.drew = Wd at *
        refine wpAnyH_take (i := 0) (oi := _) (v := ?_) rfl (by kernel_rfl) (by kernel_rfl) (by kernel_rfl) (fun _ _ _ h => h) (Or.inl ⟨by rfl, ?_⟩) (by assumption) ?_
        rotate_left
        · intro w hSw
          (try dsimp only at hSw)
          go_simp
          (try with_reducible rfl)
        try simp only [Act.put, List.setIfInBounds_toArray, List.set_cons_zero, List.set_cons_succ, List.getElem_toArray, List.getElem_cons_zero]
        refine wpAnyH_take (i := 1) (oi := _) (v := ?_) rfl (by kernel_rfl) (by kernel_rfl) (by kernel_rfl) (fun _ _ _ h => h) (Or.inl ⟨by rfl, ?_⟩) (by assumption) ?_
        rotate_left
        · intro w hSw
          (try dsimp only at hSw)
          go_simp
          (try with_reducible rfl)
        try simp only [Act.put, List.setIfInBounds_toArray, List.set_cons_zero, List.set_cons_succ, List.getElem_toArray, List.getElem_cons_succ, List.getElem_cons_zero]
        refine wpAnyH_take (i := 2) (oi := _) (v := ?_) rfl (by kernel_rfl) (by kernel_rfl) (by kernel_rfl) (fun _ _ _ h => h) (Or.inl ⟨by rfl, ?_⟩) (by assumption) ?_
        rotate_left
        · intro w hSw
          (try dsimp only at hSw)
          go_simp
          (try with_reducible rfl)
        try simp only [Act.put, List.setIfInBounds_toArray, List.set_cons_zero, List.set_cons_succ, List.getElem_toArray, List.getElem_cons_succ, List.getElem_cons_zero]
        refine wpAnyH_take (i := 3) (oi := _) (v := ?_) rfl (by kernel_rfl) (by kernel_rfl) (by kernel_rfl) (fun _ _ _ h => h) (Or.inl ⟨by rfl, ?_⟩) (by assumption) ?_
        rotate_left
        · intro w hSw
          (try dsimp only at hSw)
          go_simp
          (try with_reducible rfl)
        try simp only [Act.put, List.setIfInBounds_toArray, List.set_cons_zero, List.set_cons_succ, List.getElem_toArray, List.getElem_cons_succ, List.getElem_cons_zero]
        refine wpAnyH_take (i := 4) (oi := _) (v := ?_) rfl (by kernel_rfl) (by kernel_rfl) (by kernel_rfl) (fun _ _ _ h => h) (Or.inl ⟨by rfl, ?_⟩) (by assumption) ?_
        rotate_left
        · intro w hSw
          (try dsimp only at hSw)
          go_simp
          (try with_reducible rfl)
        try simp only [Act.put, List.setIfInBounds_toArray, List.set_cons_zero, List.set_cons_succ, List.getElem_toArray, List.getElem_cons_succ, List.getElem_cons_zero]
        refine wpAnyH_take (i := 5) (oi := _) (v := ?_) rfl (by kernel_rfl) (by kernel_rfl) (by kernel_rfl) (fun _ _ _ h => h) (Or.inl ⟨by rfl, ?_⟩) (by assumption) ?_
        rotate_left
        · intro w hSw
          (try dsimp only at hSw)
          go_simp
          (try with_reducible rfl)
        try simp only [Act.put, List.setIfInBounds_toArray, List.set_cons_zero, List.set_cons_succ, List.getElem_toArray, List.getElem_cons_succ, List.getElem_cons_zero]
        refine wpAnyH_take (i := 6) (oi := _) (v := ?_) rfl (by kernel_rfl) (by kernel_rfl) (by kernel_rfl) (fun _ _ _ h => h) (Or.inl ⟨by rfl, ?_⟩) (by assumption) ?_
        rotate_left
        · intro w hSw
          (try dsimp only at hSw)
          go_simp
          (try with_reducible rfl)
        try simp only [Act.put, List.setIfInBounds_toArray, List.set_cons_zero, List.set_cons_succ, List.getElem_toArray, List.getElem_cons_succ, List.getElem_cons_zero]
        refine wpAnyH_take (i := 7) (oi := _) (v := ?_) rfl (by kernel_rfl) (by kernel_rfl) (by kernel_rfl) (fun _ _ _ h => h) (Or.inl ⟨by rfl, ?_⟩) (by assumption) ?_
        rotate_left
        · intro w hSw
          (try dsimp only at hSw)
          go_simp
          (try with_reducible rfl)
        try simp only [Act.put, List.setIfInBounds_toArray, List.set_cons_zero, List.set_cons_succ, List.getElem_toArray, List.getElem_cons_succ, List.getElem_cons_zero]
        refine wpAnyH_ready (rs := [8, 9]) (by kernel_rfl) (by simp) ?_
        refine AllReadyH.cons (o := _) rfl (fun K hK => ?_) (AllReadyH.cons (o := _) rfl (fun K hK => ?_) AllReadyH.nil)
        · skip
          go_simp
          have bl1 : Below wr.heap.size wr (Wd.alloc (.cells #[.int .i64 0, .string ⟨#[]⟩, .slice none 0 0, .int .i64 0, .int .i64 0, .slice none 0 0, .slice none 0 0] 41)) := BW.out.alloc (by have := BW.out.size; omega) _
          refine hK.out _ _ (KQ.out _ bl1) (fun hHeld => ?_)
          clear hK K
          try simp only [Act.put, List.setIfInBounds_toArray, List.set_cons_zero, List.set_cons_succ, List.getElem_toArray, List.getElem_cons_succ, List.getElem_cons_zero]
          have nb1 := Blk.new Wd 41 #[.int .i64 0, .string ⟨#[]⟩, .slice none 0 0, .int .i64 0, .int .i64 0, .slice none 0 0, .slice none 0 0]
          have nz1 : Wd.heap.size < (Wd.alloc (.cells #[.int .i64 0, .string ⟨#[]⟩, .slice none 0 0, .int .i64 0, .int .i64 0, .slice none 0 0, .slice none 0 0] 41)).heap.size := by simp
          have nl1 : wr.heap.size ≤ Wd.heap.size := BW.out.size
          generalize (Wd.alloc (.cells #[.int .i64 0, .string ⟨#[]⟩, .slice none 0 0, .int .i64 0, .int .i64 0, .slice none 0 0, .slice none 0 0] 41)) = W1q at *
          generalize Wd.heap.size = g1 at *
          refine wpAnyH_ready (rs := [9]) (by kernel_rfl) (by simp) ?_
          refine AllReadyH.cons (o := _) rfl (fun K hK => ?_) AllReadyH.nil
          go_simp
          have bl2 : Below wr.heap.size wr (W1q.alloc (.cells #[.int .i64 0, .string ⟨#[]⟩, .slice none 0 0, .int .i64 0, .int .i64 0, .slice none 0 0, .slice none 0 0] 41)) := bl1.alloc (by have := bl1.size; omega) _
          refine hK.out _ _ (KQ.out _ bl2) (fun hHeld => ?_)
          clear hK K
          try simp only [Act.put, List.setIfInBounds_toArray, List.set_cons_zero, List.set_cons_succ, List.getElem_toArray, List.getElem_cons_succ, List.getElem_cons_zero]
          have nb2 := Blk.new W1q 41 #[.int .i64 0, .string ⟨#[]⟩, .slice none 0 0, .int .i64 0, .int .i64 0, .slice none 0 0, .slice none 0 0]
          have nc2 := nb1.alloc (.cells #[.int .i64 0, .string ⟨#[]⟩, .slice none 0 0, .int .i64 0, .int .i64 0, .slice none 0 0, .slice none 0 0] 41)
          have nz2 : W1q.heap.size < (W1q.alloc (.cells #[.int .i64 0, .string ⟨#[]⟩, .slice none 0 0, .int .i64 0, .int .i64 0, .slice none 0 0, .slice none 0 0] 41)).heap.size := by simp
          have nl2 : wr.heap.size ≤ W1q.heap.size := bl1.size
          have nm2 : g1 < W1q.heap.size := nb1.lt
          generalize (W1q.alloc (.cells #[.int .i64 0, .string ⟨#[]⟩, .slice none 0 0, .int .i64 0, .int .i64 0, .slice none 0 0, .slice none 0 0] 41)) = W2q at *
          generalize W1q.heap.size = g2 at *
          refine wpAnyH_ready (rs := [10]) (by kernel_rfl) (by simp) ?_
          refine AllReadyH.cons (o := _) rfl (fun K hK => ?_) AllReadyH.nil
          have v0 : W2q.cell? ⟨g1, 0, none⟩ = some (.int .i64 0) := nc2.cell 0
          have y0 := nc2.frozen 0
          have v1 : W2q.cell? ⟨g1, 1, none⟩ = some (.string ⟨#[]⟩) := nc2.cell 1
          have y1 := nc2.frozen 1
          have v2 : W2q.cell? ⟨g1, 2, none⟩ = some (.slice none 0 0) := nc2.cell 2
          have y2 := nc2.frozen 2
          have v3 : W2q.cell? ⟨g1, 3, none⟩ = some (.int .i64 0) := nc2.cell 3
          have y3 := nc2.frozen 3
          have v4 : W2q.cell? ⟨g1, 4, none⟩ = some (.int .i64 0) := nc2.cell 4
          have y4 := nc2.frozen 4
          have v5 : W2q.cell? ⟨g1, 5, none⟩ = some (.slice none 0 0) := nc2.cell 5
          have y5 := nc2.frozen 5
          have v6 : W2q.cell? ⟨g1, 6, none⟩ = some (.slice none 0 0) := nc2.cell 6
          have y6 := nc2.frozen 6
          go_simp
          have bl3 : Below wr.heap.size wr (((((((W2q.setCell ⟨g1, 0, none⟩ (.int .i64 kind)).setCell ⟨g1, 1, none⟩ (.string S)).setCell ⟨g1, 2, none⟩ (.slice A1 l1 c1)).setCell ⟨g1, 3, none⟩ (.int .i64 lo)).setCell ⟨g1, 4, none⟩ (.int .i64 hi)).setCell ⟨g1, 5, none⟩ (.slice A2 l2 c2)).setCell ⟨g1, 6, none⟩ (.slice A3 l3 c3)) := ((((((bl2.setCell (p := ⟨g1, 0, none⟩) (by show wr.heap.size ≤ g1; omega) (.int .i64 kind)).setCell (p := ⟨g1, 1, none⟩) (by show wr.heap.size ≤ g1; omega) (.string S)).setCell (p := ⟨g1, 2, none⟩) (by show wr.heap.size ≤ g1; omega) (.slice A1 l1 c1)).setCell (p := ⟨g1, 3, none⟩) (by show wr.heap.size ≤ g1; omega) (.int .i64 lo)).setCell (p := ⟨g1, 4, none⟩) (by show wr.heap.size ≤ g1; omega) (.int .i64 hi)).setCell (p := ⟨g1, 5, none⟩) (by show wr.heap.size ≤ g1; omega) (.slice A2 l2 c2)).setCell (p := ⟨g1, 6, none⟩) (by show wr.heap.size ≤ g1; omega) (.slice A3 l3 c3)
          refine hK.out _ _ (KQ.out _ bl3) (fun hHeld => ?_)
          clear hK K
          try simp only [Act.put, List.setIfInBounds_toArray, List.set_cons_zero, List.set_cons_succ, List.getElem_toArray, List.getElem_cons_succ, List.getElem_cons_zero]
          have nb3 := nc2.put7 (.int .i64 kind) (.string S) (.slice A1 l1 c1) (.int .i64 lo) (.int .i64 hi) (.slice A2 l2 c2) (.slice A3 l3 c3)
          have nk3 := Kept.put7 W2q g1 (.int .i64 kind) (.string S) (.slice A1 l1 c1) (.int .i64 lo) (.int .i64 hi) (.slice A2 l2 c2) (.slice A3 l3 c3)
          have nc3 := nb2.kept nk3 (by omega)
          clear v0 y0 v1 y1 v2 y2 v3 y3 v4 y4 v5 y5 v6 y6
          have nz3 := nk3.size
          clear nk3
          generalize (((((((W2q.setCell ⟨g1, 0, none⟩ (.int .i64 kind)).setCell ⟨g1, 1, none⟩ (.string S)).setCell ⟨g1, 2, none⟩ (.slice A1 l1 c1)).setCell ⟨g1, 3, none⟩ (.int .i64 lo)).setCell ⟨g1, 4, none⟩ (.int .i64 hi)).setCell ⟨g1, 5, none⟩ (.slice A2 l2 c2)).setCell ⟨g1, 6, none⟩ (.slice A3 l3 c3)) = W3q at *
          refine wpAnyH_ready (rs := [11]) (by kernel_rfl) (by simp) ?_
          refine AllReadyH.cons (o := _) rfl (fun K hK => ?_) AllReadyH.nil
          have v0 : W3q.cell? ⟨g2, 0, none⟩ = some (.int .i64 0) := nc3.cell 0
          have y0 := nc3.frozen 0
          have v1 : W3q.cell? ⟨g2, 1, none⟩ = some (.string ⟨#[]⟩) := nc3.cell 1
          have y1 := nc3.frozen 1
          have v2 : W3q.cell? ⟨g2, 2, none⟩ = some (.slice none 0 0) := nc3.cell 2
          have y2 := nc3.frozen 2
          have v3 : W3q.cell? ⟨g2, 3, none⟩ = some (.int .i64 0) := nc3.cell 3
          have y3 := nc3.frozen 3
          have v4 : W3q.cell? ⟨g2, 4, none⟩ = some (.int .i64 0) := nc3.cell 4
          have y4 := nc3.frozen 4
          have v5 : W3q.cell? ⟨g2, 5, none⟩ = some (.slice none 0 0) := nc3.cell 5
          have y5 := nc3.frozen 5
          have v6 : W3q.cell? ⟨g2, 6, none⟩ = some (.slice none 0 0) := nc3.cell 6
          have y6 := nc3.frozen 6
          go_simp
          have bl4 : Below wr.heap.size wr (((((((W3q.setCell ⟨g2, 0, none⟩ (.int .i64 kind)).setCell ⟨g2, 1, none⟩ (.string S)).setCell ⟨g2, 2, none⟩ (.slice B1 i1 d1)).setCell ⟨g2, 3, none⟩ (.int .i64 lo)).setCell ⟨g2, 4, none⟩ (.int .i64 hi)).setCell ⟨g2, 5, none⟩ (.slice B2 i2 d2)).setCell ⟨g2, 6, none⟩ (.slice B3 i3 d3)) := ((((((bl3.setCell (p := ⟨g2, 0, none⟩) (by show wr.heap.size ≤ g2; omega) (.int .i64 kind)).setCell (p := ⟨g2, 1, none⟩) (by show wr.heap.size ≤ g2; omega) (.string S)).setCell (p := ⟨g2, 2, none⟩) (by show wr.heap.size ≤ g2; omega) (.slice B1 i1 d1)).setCell (p := ⟨g2, 3, none⟩) (by show wr.heap.size ≤ g2; omega) (.int .i64 lo)).setCell (p := ⟨g2, 4, none⟩) (by show wr.heap.size ≤ g2; omega) (.int .i64 hi)).setCell (p := ⟨g2, 5, none⟩) (by show wr.heap.size ≤ g2; omega) (.slice B2 i2 d2)).setCell (p := ⟨g2, 6, none⟩) (by show wr.heap.size ≤ g2; omega) (.slice B3 i3 d3)
          refine hK.out _ _ (KQ.out _ bl4) (fun hHeld => ?_)
          clear hK K
          try simp only [Act.put, List.setIfInBounds_toArray, List.set_cons_zero, List.set_cons_succ, List.getElem_toArray, List.getElem_cons_succ, List.getElem_cons_zero]
          have nb4 := nc3.put7 (.int .i64 kind) (.string S) (.slice B1 i1 d1) (.int .i64 lo) (.int .i64 hi) (.slice B2 i2 d2) (.slice B3 i3 d3)
          have nk4 := Kept.put7 W3q g2 (.int .i64 kind) (.string S) (.slice B1 i1 d1) (.int .i64 lo) (.int .i64 hi) (.slice B2 i2 d2) (.slice B3 i3 d3)
          have nc4 := nb3.kept nk4 (by omega)
          clear v0 y0 v1 y1 v2 y2 v3 y3 v4 y4 v5 y5 v6 y6
          have nz4 := nk4.size
          clear nk4
          generalize (((((((W3q.setCell ⟨g2, 0, none⟩ (.int .i64 kind)).setCell ⟨g2, 1, none⟩ (.string S)).setCell ⟨g2, 2, none⟩ (.slice B1 i1 d1)).setCell ⟨g2, 3, none⟩ (.int .i64 lo)).setCell ⟨g2, 4, none⟩ (.int .i64 hi)).setCell ⟨g2, 5, none⟩ (.slice B2 i2 d2)).setCell ⟨g2, 6, none⟩ (.slice B3 i3 d3)) = W4q at *
          refine wpAnyH_done (by kernel_rfl) ?_ _
          go_goals
          go_wp2_with fail
          go_meet
          case rel => exact ⟨g1, g2, rfl, rfl, nc4, nb4, bl4⟩
        · skip
          go_simp
          have bl5 : Below wr.heap.size wr (Wd.alloc (.cells #[.int .i64 0, .string ⟨#[]⟩, .slice none 0 0, .int .i64 0, .int .i64 0, .slice none 0 0, .slice none 0 0] 41)) := BW.out.alloc (by have := BW.out.size; omega) _
          refine hK.out _ _ (KQ.out _ bl5) (fun hHeld => ?_)
          clear hK K
          try simp only [Act.put, List.setIfInBounds_toArray, List.set_cons_zero, List.set_cons_succ, List.getElem_toArray, List.getElem_cons_succ, List.getElem_cons_zero]
          have nb5 := Blk.new Wd 41 #[.int .i64 0, .string ⟨#[]⟩, .slice none 0 0, .int .i64 0, .int .i64 0, .slice none 0 0, .slice none 0 0]
          have nz5 : Wd.heap.size < (Wd.alloc (.cells #[.int .i64 0, .string ⟨#[]⟩, .slice none 0 0, .int .i64 0, .int .i64 0, .slice none 0 0, .slice none 0 0] 41)).heap.size := by simp
          have nl5 : wr.heap.size ≤ Wd.heap.size := BW.out.size
          generalize (Wd.alloc (.cells #[.int .i64 0, .string ⟨#[]⟩, .slice none 0 0, .int .i64 0, .int .i64 0, .slice none 0 0, .slice none 0 0] 41)) = W5q at *
          generalize Wd.heap.size = g5 at *
          refine wpAnyH_ready (rs := [8]) (by kernel_rfl) (by simp) ?_
          refine AllReadyH.cons (o := _) rfl (fun K hK => ?_) AllReadyH.nil
          go_simp
          have bl6 : Below wr.heap.size wr (W5q.alloc (.cells #[.int .i64 0, .string ⟨#[]⟩, .slice none 0 0, .int .i64 0, .int .i64 0, .slice none 0 0, .slice none 0 0] 41)) := bl5.alloc (by have := bl5.size; omega) _
          refine hK.out _ _ (KQ.out _ bl6) (fun hHeld => ?_)
          clear hK K
          try simp only [Act.put, List.setIfInBounds_toArray, List.set_cons_zero, List.set_cons_succ, List.getElem_toArray, List.getElem_cons_succ, List.getElem_cons_zero]
          have nb6 := Blk.new W5q 41 #[.int .i64 0, .string ⟨#[]⟩, .slice none 0 0, .int .i64 0, .int .i64 0, .slice none 0 0, .slice none 0 0]
          have nc6 := nb5.alloc (.cells #[.int .i64 0, .string ⟨#[]⟩, .slice none 0 0, .int .i64 0, .int .i64 0, .slice none 0 0, .slice none 0 0] 41)
          have nz6 : W5q.heap.size < (W5q.alloc (.cells #[.int .i64 0, .string ⟨#[]⟩, .slice none 0 0, .int .i64 0, .int .i64 0, .slice none 0 0, .slice none 0 0] 41)).heap.size := by simp
          have nl6 : wr.heap.size ≤ W5q.heap.size := bl5.size
          have nm6 : g5 < W5q.heap.size := nb5.lt
          generalize (W5q.alloc (.cells #[.int .i64 0, .string ⟨#[]⟩, .slice none 0 0, .int .i64 0, .int .i64 0, .slice none 0 0, .slice none 0 0] 41)) = W6q at *
          generalize W5q.heap.size = g6 at *
          refine wpAnyH_ready (rs := [10]) (by kernel_rfl) (by simp) ?_
          refine AllReadyH.cons (o := _) rfl (fun K hK => ?_) AllReadyH.nil
          have v0 : W6q.cell? ⟨g6, 0, none⟩ = some (.int .i64 0) := nb6.cell 0
          have y0 := nb6.frozen 0
          have v1 : W6q.cell? ⟨g6, 1, none⟩ = some (.string ⟨#[]⟩) := nb6.cell 1
          have y1 := nb6.frozen 1
          have v2 : W6q.cell? ⟨g6, 2, none⟩ = some (.slice none 0 0) := nb6.cell 2
          have y2 := nb6.frozen 2
          have v3 : W6q.cell? ⟨g6, 3, none⟩ = some (.int .i64 0) := nb6.cell 3
          have y3 := nb6.frozen 3
          have v4 : W6q.cell? ⟨g6, 4, none⟩ = some (.int .i64 0) := nb6.cell 4
          have y4 := nb6.frozen 4
          have v5 : W6q.cell? ⟨g6, 5, none⟩ = some (.slice none 0 0) := nb6.cell 5
          have y5 := nb6.frozen 5
          have v6 : W6q.cell? ⟨g6, 6, none⟩ = some (.slice none 0 0) := nb6.cell 6
          have y6 := nb6.frozen 6
          go_simp
          have bl7 : Below wr.heap.size wr (((((((W6q.setCell ⟨g6, 0, none⟩ (.int .i64 kind)).setCell ⟨g6, 1, none⟩ (.string S)).setCell ⟨g6, 2, none⟩ (.slice A1 l1 c1)).setCell ⟨g6, 3, none⟩ (.int .i64 lo)).setCell ⟨g6, 4, none⟩ (.int .i64 hi)).setCell ⟨g6, 5, none⟩ (.slice A2 l2 c2)).setCell ⟨g6, 6, none⟩ (.slice A3 l3 c3)) := ((((((bl6.setCell (p := ⟨g6, 0, none⟩) (by show wr.heap.size ≤ g6; omega) (.int .i64 kind)).setCell (p := ⟨g6, 1, none⟩) (by show wr.heap.size ≤ g6; omega) (.string S)).setCell (p := ⟨g6, 2, none⟩) (by show wr.heap.size ≤ g6; omega) (.slice A1 l1 c1)).setCell (p := ⟨g6, 3, none⟩) (by show wr.heap.size ≤ g6; omega) (.int .i64 lo)).setCell (p := ⟨g6, 4, none⟩) (by show wr.heap.size ≤ g6; omega) (.int .i64 hi)).setCell (p := ⟨g6, 5, none⟩) (by show wr.heap.size ≤ g6; omega) (.slice A2 l2 c2)).setCell (p := ⟨g6, 6, none⟩) (by show wr.heap.size ≤ g6; omega) (.slice A3 l3 c3)
          refine hK.out _ _ (KQ.out _ bl7) (fun hHeld => ?_)
          clear hK K
          try simp only [Act.put, List.setIfInBounds_toArray, List.set_cons_zero, List.set_cons_succ, List.getElem_toArray, List.getElem_cons_succ, List.getElem_cons_zero]
          have nb7 := nb6.put7 (.int .i64 kind) (.string S) (.slice A1 l1 c1) (.int .i64 lo) (.int .i64 hi) (.slice A2 l2 c2) (.slice A3 l3 c3)
          have nk7 := Kept.put7 W6q g6 (.int .i64 kind) (.string S) (.slice A1 l1 c1) (.int .i64 lo) (.int .i64 hi) (.slice A2 l2 c2) (.slice A3 l3 c3)
          have nc7 := nc6.kept nk7 (by omega)
          clear v0 y0 v1 y1 v2 y2 v3 y3 v4 y4 v5 y5 v6 y6
          have nz7 := nk7.size
          clear nk7
          generalize (((((((W6q.setCell ⟨g6, 0, none⟩ (.int .i64 kind)).setCell ⟨g6, 1, none⟩ (.string S)).setCell ⟨g6, 2, none⟩ (.slice A1 l1 c1)).setCell ⟨g6, 3, none⟩ (.int .i64 lo)).setCell ⟨g6, 4, none⟩ (.int .i64 hi)).setCell ⟨g6, 5, none⟩ (.slice A2 l2 c2)).setCell ⟨g6, 6, none⟩ (.slice A3 l3 c3)) = W7q at *
          refine wpAnyH_ready (rs := [11]) (by kernel_rfl) (by simp) ?_
          refine AllReadyH.cons (o := _) rfl (fun K hK => ?_) AllReadyH.nil
          have v0 : W7q.cell? ⟨g5, 0, none⟩ = some (.int .i64 0) := nc7.cell 0
          have y0 := nc7.frozen 0
          have v1 : W7q.cell? ⟨g5, 1, none⟩ = some (.string ⟨#[]⟩) := nc7.cell 1
          have y1 := nc7.frozen 1
          have v2 : W7q.cell? ⟨g5, 2, none⟩ = some (.slice none 0 0) := nc7.cell 2
          have y2 := nc7.frozen 2
          have v3 : W7q.cell? ⟨g5, 3, none⟩ = some (.int .i64 0) := nc7.cell 3
          have y3 := nc7.frozen 3
          have v4 : W7q.cell? ⟨g5, 4, none⟩ = some (.int .i64 0) := nc7.cell 4
          have y4 := nc7.frozen 4
          have v5 : W7q.cell? ⟨g5, 5, none⟩ = some (.slice none 0 0) := nc7.cell 5
          have y5 := nc7.frozen 5
          have v6 : W7q.cell? ⟨g5, 6, none⟩ = some (.slice none 0 0) := nc7.cell 6
          have y6 := nc7.frozen 6
          go_simp
          have bl8 : Below wr.heap.size wr (((((((W7q.setCell ⟨g5, 0, none⟩ (.int .i64 kind)).setCell ⟨g5, 1, none⟩ (.string S)).setCell ⟨g5, 2, none⟩ (.slice B1 i1 d1)).setCell ⟨g5, 3, none⟩ (.int .i64 lo)).setCell ⟨g5, 4, none⟩ (.int .i64 hi)).setCell ⟨g5, 5, none⟩ (.slice B2 i2 d2)).setCell ⟨g5, 6, none⟩ (.slice B3 i3 d3)) := ((((((bl7.setCell (p := ⟨g5, 0, none⟩) (by show wr.heap.size ≤ g5; omega) (.int .i64 kind)).setCell (p := ⟨g5, 1, none⟩) (by show wr.heap.size ≤ g5; omega) (.string S)).setCell (p := ⟨g5, 2, none⟩) (by show wr.heap.size ≤ g5; omega) (.slice B1 i1 d1)).setCell (p := ⟨g5, 3, none⟩) (by show wr.heap.size ≤ g5; omega) (.int .i64 lo)).setCell (p := ⟨g5, 4, none⟩) (by show wr.heap.size ≤ g5; omega) (.int .i64 hi)).setCell (p := ⟨g5, 5, none⟩) (by show wr.heap.size ≤ g5; omega) (.slice B2 i2 d2)).setCell (p := ⟨g5, 6, none⟩) (by show wr.heap.size ≤ g5; omega) (.slice B3 i3 d3)
          refine hK.out _ _ (KQ.out _ bl8) (fun hHeld => ?_)
          clear hK K
          try simp only [Act.put, List.setIfInBounds_toArray, List.set_cons_zero, List.set_cons_succ, List.getElem_toArray, List.getElem_cons_succ, List.getElem_cons_zero]
          have nb8 := nc7.put7 (.int .i64 kind) (.string S) (.slice B1 i1 d1) (.int .i64 lo) (.int .i64 hi) (.slice B2 i2 d2) (.slice B3 i3 d3)
          have nk8 := Kept.put7 W7q g5 (.int .i64 kind) (.string S) (.slice B1 i1 d1) (.int .i64 lo) (.int .i64 hi) (.slice B2 i2 d2) (.slice B3 i3 d3)
          have nc8 := nb7.kept nk8 (by omega)
          clear v0 y0 v1 y1 v2 y2 v3 y3 v4 y4 v5 y5 v6 y6
          have nz8 := nk8.size
          clear nk8
          generalize (((((((W7q.setCell ⟨g5, 0, none⟩ (.int .i64 kind)).setCell ⟨g5, 1, none⟩ (.string S)).setCell ⟨g5, 2, none⟩ (.slice B1 i1 d1)).setCell ⟨g5, 3, none⟩ (.int .i64 lo)).setCell ⟨g5, 4, none⟩ (.int .i64 hi)).setCell ⟨g5, 5, none⟩ (.slice B2 i2 d2)).setCell ⟨g5, 6, none⟩ (.slice B3 i3 d3)) = W8q at *
          refine wpAnyH_done (by kernel_rfl) ?_ _
          go_goals
          go_wp2_with fail
          go_meet
          case rel => exact ⟨g6, g5, rfl, rfl, nc8, nb8, bl8⟩
      case rest =>
      obtain ⟨a, b, rfl, rfl, ba, bb, bw⟩ := hcut
      obtain ⟨W2, rfl⟩ : ∃ x, x = wc := ⟨_, rfl⟩
      have F2 := Lib.hid (hb.out.trans (bw.out.mono hwz))
      have xa := ba.out
      have xb := bb.out
      have s0 : W2.cell? ⟨a, 0, none⟩ = some (.int .i64 kind) := xa.cell 0
      have s1 : W2.cell? ⟨a, 1, none⟩ = some (.string S) := xa.cell 1
      have s2 : W2.cell? ⟨a, 2, none⟩ = some (.slice A1 l1 c1) := xa.cell 2
      have s3 : W2.cell? ⟨a, 3, none⟩ = some (.int .i64 lo) := xa.cell 3
      have s4 : W2.cell? ⟨a, 4, none⟩ = some (.int .i64 hi) := xa.cell 4
      have s5 : W2.cell? ⟨a, 5, none⟩ = some (.slice A2 l2 c2) := xa.cell 5
      have s6 : W2.cell? ⟨a, 6, none⟩ = some (.slice A3 l3 c3) := xa.cell 6
      have t0 : W2.cell? ⟨b, 0, none⟩ = some (.int .i64 kind) := xb.cell 0
      have t1 : W2.cell? ⟨b, 1, none⟩ = some (.string S) := xb.cell 1
      have t2 : W2.cell? ⟨b, 2, none⟩ = some (.slice B1 i1 d1) := xb.cell 2
      have t3 : W2.cell? ⟨b, 3, none⟩ = some (.int .i64 lo) := xb.cell 3
      have t4 : W2.cell? ⟨b, 4, none⟩ = some (.int .i64 hi) := xb.cell 4
      have t5 : W2.cell? ⟨b, 5, none⟩ = some (.slice B2 i2 d2) := xb.cell 5
      have t6 : W2.cell? ⟨b, 6, none⟩ = some (.slice B3 i3 d3) := xb.cell 6
      clear xa xb
      go_wp2_with fail
      refine (CE.out _ F2.out).mono ?_
      rintro e w3 ⟨rfl, b3⟩
      have F3 := Lib.hid (F2.out.trans (b3.mono F2.out.size))
      have X3 := Lib.hid (ba.out.below b3 ba.out.lt)
      have Y3 := Lib.hid (bb.out.below b3 bb.out.lt)
      have s5 : w3.cell? ⟨a, 5, none⟩ = some (.slice A2 l2 c2) := X3.out.cell 5
      have s6 : w3.cell? ⟨a, 6, none⟩ = some (.slice A3 l3 c3) := X3.out.cell 6
      have t5 : w3.cell? ⟨b, 5, none⟩ = some (.slice B2 i2 d2) := Y3.out.cell 5
      have t6 : w3.cell? ⟨b, 6, none⟩ = some (.slice B3 i3 d3) := Y3.out.cell 6
      go_wp2_with fail
      refine (CL.out _ F3.out).mono ?_
      rintro e w4 ⟨rfl, b4⟩
      have F4 := Lib.hid (F3.out.trans (b4.mono F3.out.size))
      have s6 : w4.cell? ⟨a, 6, none⟩ = some (.slice A3 l3 c3) := (X3.out.below b4 X3.out.lt).cell 6
      have t6 : w4.cell? ⟨b, 6, none⟩ = some (.slice B3 i3 d3) := (Y3.out.below b4 Y3.out.lt).cell 6
      go_wp2_with fail
      refine (CS.out _ F4.out).mono ?_
      rintro e w5 ⟨rfl, b5⟩
      have F5 := Lib.hid (F4.out.trans (b5.mono F4.out.size))
      go_wp2_with fail
      go_roundw
      case rel => exact ⟨k + 1, by omega, by go_num, F5⟩
      case measure => simp [intOf]; omega
    · obtain rfl : k = len' := by omega
      go_wp2_with fail
      go_ret
      exact ⟨rfl, hb.out⟩
theorem samest_any : ∀ n, SameStOk n
  | 0 => samest_step 0 (fun q h => absurd h (by omega))
  | n + 1 => samest_step (n + 1) (fun q h => by
    obtain rfl : n = q := by omega
    exact samest_any n)
end Go.Proofs.YtdmlnoeneoomfaaDoor
namespace Go.Proofs.YtdmlnoeneoomfaaDoor
open Go.RowKit

theorem ElsG.belowQ {α : Type} {Q : Cel α} (hq : QKept Q) {D : Nat → Prop} {w w' : World} {s len : Nat} {A : Option Addr} {l : List α} (h : ElsG D w s 1000000 (Q D w) A len l) (hb : Below w.heap.size w w') : ElsG D w' s 1000000 (Q D w') A len l := h.kept (Kept.of_below (S := fun _ => False) hb) (fun _ _ _ h => h) (fun _ _ h => h) (fun cs a h => hq D D _ w w' cs a (Kept.of_below (S := fun _ => False) hb) (fun _ _ _ h => h) (fun _ _ h => h) h)
set_option maxHeartbeats 8000000 in
set_option maxRecDepth 100000 in
theorem same_prog (D D' : Nat → Prop) (nm nm' : ByteArray) (seats seats' : Int) (sil sil' : ByteArray) (A1 : Option Addr) (nA1 cA1 : Nat) (A2 : Option Addr) (nA2 cA2 : Nat) (A3 : Option Addr) (nA3 cA3 : Nat) (A4 : Option Addr) (nA4 cA4 : Nat) (A5 : Option Addr) (nA5 cA5 : Nat) (A6 : Option Addr) (nA6 cA6 : Nat) (A7 : Option Addr) (nA7 cA7 : Nat) (A8 : Option Addr) (nA8 cA8 : Nat) (B1 : Option Addr) (nB1 cB1 : Nat) (B2 : Option Addr) (nB2 cB2 : Nat) (B3 : Option Addr) (nB3 cB3 : Nat) (B4 : Option Addr) (nB4 cB4 : Nat) (B5 : Option Addr) (nB5 cB5 : Nat) (B6 : Option Addr) (nB6 cB6 : Nat) (B7 : Option Addr) (nB7 cB7 : Nat) (B8 : Option Addr) (nB8 cB8 : Nat) (p : Pg) (w : World) (h1 : PD D w [.string nm, .int .i64 seats, .slice A1 nA1 cA1, .slice A2 nA2 cA2, .slice A3 nA3 cA3, .slice A4 nA4 cA4, .slice A5 nA5 cA5, .slice A6 nA6 cA6, .string sil, .slice A7 nA7 cA7, .slice A8 nA8 cA8] p) (h2 : PD D' w [.string nm', .int .i64 seats', .slice B1 nB1 cB1, .slice B2 nB2 cB2, .slice B3 nB3 cB3, .slice B4 nB4 cB4, .slice B5 nB5 cB5, .slice B6 nB6 cB6, .string sil', .slice B7 nB7 cB7, .slice B8 nB8 cB8] p) :
    Calls Tryd.prog 18 #[.agg #[.string nm, .int .i64 seats, .slice A1 nA1 cA1, .slice A2 nA2 cA2, .slice A3 nA3 cA3, .slice A4 nA4 cA4, .slice A5 nA5 cA5, .slice A6 nA6 cA6, .string sil, .slice A7 nA7 cA7, .slice A8 nA8 cA8], .agg #[.string nm', .int .i64 seats', .slice B1 nB1 cB1, .slice B2 nB2 cB2, .slice B3 nB3 cB3, .slice B4 nB4 cB4, .slice B5 nB5 cB5, .slice B6 nB6 cB6, .string sil', .slice B7 nB7 cB7, .slice B8 nB8 cB8]] w (Tells w true) := by
  obtain ⟨v1, v2, v3, v4, v5, v6, v7, v8, h0, r1, r2, r3, r4, r5, r6, r7, r8⟩ := h1
  obtain ⟨u1, u2, u3, u4, u5, u6, u7, u8, g0, t1, t2, t3, t4, t5, t6, t7, t8⟩ := h2
  simp only [List.cons.injEq, and_true, Value.string.injEq, Value.int.injEq, true_and] at h0 g0
  obtain ⟨e0, e1, rfl, rfl, rfl, rfl, rfl, rfl, e8, rfl, rfl⟩ := h0
  obtain ⟨d0, d1, rfl, rfl, rfl, rfl, rfl, rfl, d8, rfl, rfl⟩ := g0
  rw [← e0] at d0
  rw [← e1] at d1
  rw [← e8] at d8
  have d0 := d0.symm
  have d1 := d1.symm
  have d8 := d8.symm
  subst d0 d1 d8
  clear e0 e1 e8
  have H2 := r2.elsD
  have G2 := t2.elsD
  have C2 := Lib.hid (fun W (hW : Below w.heap.size w W) => samevars_any D D' A2 B2 nA2 nB2 cA2 cB2 _ W (H2.belowQ QV_kept hW) (G2.belowQ QV_kept hW))
  have H3 := r3.elsD
  have G3 := t3.elsD
  have C3 := Lib.hid (fun W (hW : Below w.heap.size w W) => samest_any 16 D D' A3 B3 nA3 nB3 cA3 cB3 _ W (H3.belowR hW) (G3.belowR hW))
  have H4 := r4.elsD
  have G4 := t4.elsD
  have C4 := Lib.hid (fun W (hW : Below w.heap.size w W) => samest_any 16 D D' A4 B4 nA4 nB4 cA4 cB4 _ W (H4.belowR hW) (G4.belowR hW))
  have H5 := r5.elsD
  have G5 := t5.elsD
  have C5 := Lib.hid (fun W (hW : Below w.heap.size w W) => samevars_any D D' A5 B5 nA5 nB5 cA5 cB5 _ W (H5.belowQ QV_kept hW) (G5.belowQ QV_kept hW))
  have H6 := r6.elsD
  have G6 := t6.elsD
  have C6 := Lib.hid (fun W (hW : Below w.heap.size w W) => samest_any 16 D D' A6 B6 nA6 nB6 cA6 cB6 _ W (H6.belowR hW) (G6.belowR hW))
  have H7 := r7.elsD
  have G7 := t7.elsD
  have C7 := Lib.hid (fun W (hW : Below w.heap.size w W) => samest_any 16 D D' A7 B7 nA7 nB7 cA7 cB7 _ W (H7.belowR hW) (G7.belowR hW))
  have H8 := r8.elsD
  have G8 := t8.elsD
  have C8 := Lib.hid (fun W (hW : Below w.heap.size w W) => samest_any 16 D D' A8 B8 nA8 nB8 cA8 cB8 _ W (H8.belowR hW) (G8.belowR hW))
  obtain ⟨xs, R1, -, m1, n1, E1⟩ := r1.elsD
  obtain ⟨ys, R2, -, m2, n2, E2⟩ := t1.elsD
  have hnn : nA1 = nB1 := by omega
  subst hnn
  have R1 := Lib.hid R1
  have R2 := Lib.hid R2
  have N1 := Lib.hid n1
  have E1 := Lib.hid E1
  have E2 := Lib.hid E2
  clear H2 G2 H3 G3 H4 G4 H5 G5 H6 G6 H7 G7 H8 G8 r1 r2 r3 r4 r5 r6 r7 r8 t1 t2 t3 t4 t5 t6 t7 t8 n1 n2 m2
  have f0 : Below w.heap.size w ((w.alloc (.cells #[.string nm, .int .i64 seats, .slice A1 nA1 cA1, .slice A2 nA2 cA2, .slice A3 nA3 cA3, .slice A4 nA4 cA4, .slice A5 nA5 cA5, .slice A6 nA6 cA6, .string sil, .slice A7 nA7 cA7, .slice A8 nA8 cA8] 62)).alloc (.cells #[.string nm, .int .i64 seats, .slice B1 nA1 cB1, .slice B2 nB2 cB2, .slice B3 nB3 cB3, .slice B4 nB4 cB4, .slice B5 nB5 cB5, .slice B6 nB6 cB6, .string sil, .slice B7 nB7 cB7, .slice B8 nB8 cB8] 62)) := ((Below.refl _ w).al _).alloc (by simp) _
  obtain ⟨y1, y2⟩ := two_new w 62 62 #[.string nm, .int .i64 seats, .slice A1 nA1 cA1, .slice A2 nA2 cA2, .slice A3 nA3 cA3, .slice A4 nA4 cA4, .slice A5 nA5 cA5, .slice A6 nA6 cA6, .string sil, .slice A7 nA7 cA7, .slice A8 nA8 cA8] #[.string nm, .int .i64 seats, .slice B1 nA1 cB1, .slice B2 nB2 cB2, .slice B3 nB3 cB3, .slice B4 nB4 cB4, .slice B5 nB5 cB5, .slice B6 nB6 cB6, .string sil, .slice B7 nB7 cB7, .slice B8 nB8 cB8]
  go_enter Tryd.func18, Tryd.ntmps18
  go_upto_region 1 with fail
  generalize (w.alloc (.cells #[.string nm, .int .i64 seats, .slice A1 nA1 cA1, .slice A2 nA2 cA2, .slice A3 nA3 cA3, .slice A4 nA4 cA4, .slice A5 nA5 cA5, .slice A6 nA6 cA6, .string sil, .slice A7 nA7 cA7, .slice A8 nA8 cA8] 62)).alloc (.cells #[.string nm, .int .i64 seats, .slice B1 nA1 cB1, .slice B2 nB2 cB2, .slice B3 nB3 cB3, .slice B4 nB4 cB4, .slice B5 nB5 cB5, .slice B6 nB6 cB6, .string sil, .slice B7 nB7 cB7, .slice B8 nB8 cB8] 62) = W0 at *
  have F0 := Lib.hid f0
  have Y1 := Lib.hid y1
  have Y2 := Lib.hid y2
  clear f0 y1 y2
  have s0 : W0.cell? ⟨w.heap.size, 0, none⟩ = some (.string nm) := Y1.out.cell 0
  have t0 : W0.cell? ⟨w.heap.size + 1, 0, none⟩ = some (.string nm) := Y2.out.cell 0
  have s1 : W0.cell? ⟨w.heap.size, 1, none⟩ = some (.int .i64 seats) := Y1.out.cell 1
  have t1 : W0.cell? ⟨w.heap.size + 1, 1, none⟩ = some (.int .i64 seats) := Y2.out.cell 1
  have s8 : W0.cell? ⟨w.heap.size, 8, none⟩ = some (.string sil) := Y1.out.cell 8
  have t8 : W0.cell? ⟨w.heap.size + 1, 8, none⟩ = some (.string sil) := Y2.out.cell 8
  have s2 : W0.cell? ⟨w.heap.size, 2, none⟩ = some (.slice A1 nA1 cA1) := Y1.out.cell 2
  have t2 : W0.cell? ⟨w.heap.size + 1, 2, none⟩ = some (.slice B1 nA1 cB1) := Y2.out.cell 2
  have s3 : W0.cell? ⟨w.heap.size, 3, none⟩ = some (.slice A2 nA2 cA2) := Y1.out.cell 3
  have t3 : W0.cell? ⟨w.heap.size + 1, 3, none⟩ = some (.slice B2 nB2 cB2) := Y2.out.cell 3
  have s6 : W0.cell? ⟨w.heap.size, 6, none⟩ = some (.slice A5 nA5 cA5) := Y1.out.cell 6
  have t6 : W0.cell? ⟨w.heap.size + 1, 6, none⟩ = some (.slice B5 nB5 cB5) := Y2.out.cell 6
  go_wp2_with fail
  refine (C2.out _ F0.out).mono ?_
  rintro e w1 ⟨rfl, b1⟩
  have F1 := Lib.hid (F0.out.trans (b1.mono F0.out.size))
  have X1 := Lib.hid (Y1.out.below b1 Y1.out.lt)
  have X2 := Lib.hid (Y2.out.below b1 Y2.out.lt)
  clear s0 s1 s2 s3 s6 s8 t0 t1 t2 t3 t6 t8 b1 Y1 Y2
  have s6 : w1.cell? ⟨w.heap.size, 6, none⟩ = some (.slice A5 nA5 cA5) := X1.out.cell 6
  have t6 : w1.cell? ⟨w.heap.size + 1, 6, none⟩ = some (.slice B5 nB5 cB5) := X2.out.cell 6
  go_wp2_with fail
  refine (C5.out _ F1.out).mono ?_
  rintro e w2 ⟨rfl, b2⟩
  have F2 := Lib.hid (F1.out.trans (b2.mono F1.out.size))
  have Z1 := Lib.hid (X1.out.below b2 X1.out.lt)
  have Z2 := Lib.hid (X2.out.below b2 X2.out.lt)
  have hz := F2.out.size
  clear s6 t6 b2 X1 X2
  go_wp2_with fail
  go_loopw [5] (fun i wr => ∃ k : Nat, k ≤ nA1 ∧ i = .int .i64 k ∧ Hid (Below w2.heap.size w2 wr)) (fun i _ => nA1 - (intOf i).toNat)
  case atStart => exact ⟨0, by omega, rfl, Below.refl _ _⟩
  case round =>
    obtain ⟨k, hk, rfl, hb⟩ := hrel
    have zz1 := Z1.out.below hb.out Z1.out.lt
    have zz2 := Z2.out.below hb.out Z2.out.lt
    have s0 : wr.cell? ⟨w.heap.size, 0, none⟩ = some (.string nm) := zz1.cell 0
    have t0 : wr.cell? ⟨w.heap.size + 1, 0, none⟩ = some (.string nm) := zz2.cell 0
    have s1 : wr.cell? ⟨w.heap.size, 1, none⟩ = some (.int .i64 seats) := zz1.cell 1
    have t1 : wr.cell? ⟨w.heap.size + 1, 1, none⟩ = some (.int .i64 seats) := zz2.cell 1
    have s2 : wr.cell? ⟨w.heap.size, 2, none⟩ = some (.slice A1 nA1 cA1) := zz1.cell 2
    have t2 : wr.cell? ⟨w.heap.size + 1, 2, none⟩ = some (.slice B1 nA1 cB1) := zz2.cell 2
    have s3 : wr.cell? ⟨w.heap.size, 3, none⟩ = some (.slice A2 nA2 cA2) := zz1.cell 3
    have t3 : wr.cell? ⟨w.heap.size + 1, 3, none⟩ = some (.slice B2 nB2 cB2) := zz2.cell 3
    have s4 : wr.cell? ⟨w.heap.size, 4, none⟩ = some (.slice A3 nA3 cA3) := zz1.cell 4
    have t4 : wr.cell? ⟨w.heap.size + 1, 4, none⟩ = some (.slice B3 nB3 cB3) := zz2.cell 4
    have s5 : wr.cell? ⟨w.heap.size, 5, none⟩ = some (.slice A4 nA4 cA4) := zz1.cell 5
    have t5 : wr.cell? ⟨w.heap.size + 1, 5, none⟩ = some (.slice B4 nB4 cB4) := zz2.cell 5
    have s6 : wr.cell? ⟨w.heap.size, 6, none⟩ = some (.slice A5 nA5 cA5) := zz1.cell 6
    have t6 : wr.cell? ⟨w.heap.size + 1, 6, none⟩ = some (.slice B5 nB5 cB5) := zz2.cell 6
    have s7 : wr.cell? ⟨w.heap.size, 7, none⟩ = some (.slice A6 nA6 cA6) := zz1.cell 7
    have t7 : wr.cell? ⟨w.heap.size + 1, 7, none⟩ = some (.slice B6 nB6 cB6) := zz2.cell 7
    have s8 : wr.cell? ⟨w.heap.size, 8, none⟩ = some (.string sil) := zz1.cell 8
    have t8 : wr.cell? ⟨w.heap.size + 1, 8, none⟩ = some (.string sil) := zz2.cell 8
    have s9 : wr.cell? ⟨w.heap.size, 9, none⟩ = some (.slice A7 nA7 cA7) := zz1.cell 9
    have t9 : wr.cell? ⟨w.heap.size + 1, 9, none⟩ = some (.slice B7 nB7 cB7) := zz2.cell 9
    have s10 : wr.cell? ⟨w.heap.size, 10, none⟩ = some (.slice A8 nA8 cA8) := zz1.cell 10
    have t10 : wr.cell? ⟨w.heap.size + 1, 10, none⟩ = some (.slice B8 nB8 cB8) := zz2.cell 10
    by_cases hlt : k < nA1
    · have hkk : k < p.stakes.length := by rw [N1.out]; exact hlt
      have ec : (xs.drop (k * 1)).take 1 = [.int .i64 (p.stakes[k]'hkk)] := E1.out k hkk
      have ed : (ys.drop (k * 1)).take 1 = [.int .i64 (p.stakes[k]'hkk)] := E2.out k hkk
      generalize p.stakes[k] = sk at *
      obtain ⟨b1, o1, rfl, hb1, q⟩ := R1.out.chunk (by omega) hlt ec
      obtain ⟨b2, o2, rfl, hb2, r⟩ := R2.out.chunk (by omega) hlt ed
      have q0 := (hb.out.cell (p := ⟨b1, o1 + k * 1, none⟩) (by show b1 < _; omega)).trans ((F2.out.cell (p := ⟨b1, o1 + k * 1, none⟩) hb1).trans (q 0 _ rfl))
      have r0 := (hb.out.cell (p := ⟨b2, o2 + k * 1, none⟩) (by show b2 < _; omega)).trans ((F2.out.cell (p := ⟨b2, o2 + k * 1, none⟩) hb2).trans (r 0 _ rfl))
      rw [Nat.mul_one] at q0 r0
      have g1 : (0 : Int) ≤ (k : Int) := by omega
      have g2 : (k : Int) < (nA1 : Int) := by omega
      clear q r ec ed
      go_upto_region 6 with fail
      go_quiet (fail)
      go_wp2_with fail
      go_roundw
      case rel => exact ⟨k + 1, by omega, by go_num, below_drewN hb.out _⟩
      case measure => simp [intOf]; omega
    · obtain rfl : k = nA1 := by omega
      have FF0 := Lib.hid (F2.out.trans (hb.out.mono F2.out.size))
      have P0 := Lib.hid zz1
      have Q0 := Lib.hid zz2
      clear zz1 zz2
      go_wp2_with fail
      refine (C3.out _ FF0.out).mono ?_
      rintro e v1 ⟨rfl, c1⟩
      have FF1 := Lib.hid (FF0.out.trans (c1.mono FF0.out.size))
      have P1 := Lib.hid (P0.out.below c1 P0.out.lt)
      have Q1 := Lib.hid (Q0.out.below c1 Q0.out.lt)
      have s5 : v1.cell? ⟨w.heap.size, 5, none⟩ = some (.slice A4 nA4 cA4) := P1.out.cell 5
      have t5 : v1.cell? ⟨w.heap.size + 1, 5, none⟩ = some (.slice B4 nB4 cB4) := Q1.out.cell 5
      go_wp2_with fail
      refine (C4.out _ FF1.out).mono ?_
      rintro e v2 ⟨rfl, c2⟩
      have FF2 := Lib.hid (FF1.out.trans (c2.mono FF1.out.size))
      have P2 := Lib.hid (P1.out.below c2 P1.out.lt)
      have Q2 := Lib.hid (Q1.out.below c2 Q1.out.lt)
      have s7 : v2.cell? ⟨w.heap.size, 7, none⟩ = some (.slice A6 nA6 cA6) := P2.out.cell 7
      have t7 : v2.cell? ⟨w.heap.size + 1, 7, none⟩ = some (.slice B6 nB6 cB6) := Q2.out.cell 7
      go_wp2_with fail
      refine (C6.out _ FF2.out).mono ?_
      rintro e v3 ⟨rfl, c3⟩
      have FF3 := Lib.hid (FF2.out.trans (c3.mono FF2.out.size))
      have P3 := Lib.hid (P2.out.below c3 P2.out.lt)
      have Q3 := Lib.hid (Q2.out.below c3 Q2.out.lt)
      have s9 : v3.cell? ⟨w.heap.size, 9, none⟩ = some (.slice A7 nA7 cA7) := P3.out.cell 9
      have t9 : v3.cell? ⟨w.heap.size + 1, 9, none⟩ = some (.slice B7 nB7 cB7) := Q3.out.cell 9
      go_wp2_with fail
      refine (C7.out _ FF3.out).mono ?_
      rintro e v4 ⟨rfl, c4⟩
      have FF4 := Lib.hid (FF3.out.trans (c4.mono FF3.out.size))
      have P4 := Lib.hid (P3.out.below c4 P3.out.lt)
      have Q4 := Lib.hid (Q3.out.below c4 Q3.out.lt)
      have s10 : v4.cell? ⟨w.heap.size, 10, none⟩ = some (.slice A8 nA8 cA8) := P4.out.cell 10
      have t10 : v4.cell? ⟨w.heap.size + 1, 10, none⟩ = some (.slice B8 nB8 cB8) := Q4.out.cell 10
      go_wp2_with fail
      refine (C8.out _ FF4.out).mono ?_
      rintro e v5 ⟨rfl, c5⟩
      have FF5 := Lib.hid (FF4.out.trans (c5.mono FF4.out.size))
      have P5 := Lib.hid (P4.out.below c5 P4.out.lt)
      have Q5 := Lib.hid (Q4.out.below c5 Q4.out.lt)
      go_wp2_with fail
      go_ret
      exact ⟨rfl, FF5.out⟩
end Go.Proofs.YtdmlnoeneoomfaaDoor
