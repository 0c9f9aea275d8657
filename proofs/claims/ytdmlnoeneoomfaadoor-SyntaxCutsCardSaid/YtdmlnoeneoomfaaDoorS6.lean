
/-
  The parser's join. (Printed by wip/tools/gens6.py.)
-/
import Derived.Test.YtdmlnoeneoomfaaDoorS5
import Derived.Deep.RegionHeld3
import Derived.Deep.DeepCutAuto
import Derived.Deep.LoopGhost
namespace Go.Proofs.YtdmlnoeneoomfaaDoor
open Go.RowKit

def goes (lvl : Nat) (next : List Tk → PR) : PR → PR
  | .bad r e => .bad r e
  | .ok x r => loopJ lvl next r.length x r
theorem joinL_goes (plain : List Tk → PR) (k : Nat) (r : List Tk) : joinL plain (k + 1) r = goes (4 - k) (joinL plain k) (joinL plain k r) := by
  simp only [joinL]
  cases joinL plain k r <;> rfl
theorem goes_stop {lvl : Nat} {next : List Tk → PR} {x : Ex} {r : List Tk} (h : opAt lvl r = none) : goes lvl next (.ok x r) = .ok x r := by
  simp only [goes]
  cases hl : r.length with
  | zero => rfl
  | succ n => simp only [loopJ, h]
theorem goes_step {lvl : Nat} {next : List Tk → PR} (he : Eats next) {x : Ex} {r : List Tk} {op : Int} (h : opAt lvl r = some op) : goes lvl next (.ok x r) = if lvl = 2 then (next r.tail).wrap (.bin op x) else goes lvl next ((next r.tail).wrap (.bin op x)) := by
  cases r with
  | nil => simp [opAt] at h
  | cons t r =>
    simp only [goes, List.length_cons, loopJ, h, List.tail_cons]
    cases hq : next r with
    | bad r2 e => simp [PR.wrap]
    | ok e2 r2 =>
      simp only [PR.wrap]
      have h3 := he _ _ _ hq
      split
      · rfl
      · exact loopJ_more he _ r2 (Nat.le_refl _) _ _ (by omega)
theorem lookup_ne {l : Nat} {x : List UInt8} {op : Int} (h : (lvlT l).lookup x = some op) : x ≠ [] := by
  rintro rfl
  match l with
  | 0 | 1 | 2 | 3 | 4 => exact absurd (show (none : Option Int) = some op from h) (by simp)
  | _ + 5 => exact absurd (show (none : Option Int) = some op from h) (by simp)
theorem par_map {A : Option Addr} {n c : Nat} {m : Nat → Nat} {i : Nat} {dp er : Int} : ∀ {l : Nat}, l < 5 → (parCells A n c m i dp er)[3 + l]? = some (.map (some (m l)))
  | 0, _ => rfl
  | 1, _ => rfl
  | 2, _ => rfl
  | 3, _ => rfl
  | 4, _ => rfl
  | _ + 5, h => absurd h (by omega)
def PcAt (D : Nat → Prop) (ts : List Tk) (i : Nat) (er : Int) (cs : List Value) (w : World) (pc : PR) : Prop := match pc with
  | .ok x r => r = ts.drop i ∧ er = 0 ∧ TE D w x cs
  | .bad r e => r = ts.drop i ∧ e = er ∧ er ≠ 0
theorem PcAt.ex {base g c : Nat} {A : Option Addr} {m : Nat → Nat} {ts : List Tk} {i : Nat} {dp er : Int} {cs : List Value} {w : World} {pc : PR} {D : Nat → Prop} (h : PcAt D ts i er cs w pc) (hD : ∀ k, D k → base ≤ k) (hi : i < ts.length) (hb : Blk w g 103 (parCells A ts.length c m i dp er)) : ExAt base g c A m ts dp cs w pc := by
  refine ⟨i, er, hi, hb, ?_⟩
  cases pc with
  | ok x r => exact ⟨h.1, h.2.1, h.2.2.mono (fun k _ => hD k)⟩
  | bad r e => exact h
theorem PcAt.of_ex {base g c : Nat} {A : Option Addr} {m : Nat → Nat} {ts : List Tk} {dp : Int} {cs : List Value} {w : World} {pc : PR} (h : ExAt base g c A m ts dp cs w pc) : ∃ i er, i < ts.length ∧ Blk w g 103 (parCells A ts.length c m i dp er) ∧ PcAt (fun k => base ≤ k ∧ k < w.heap.size) ts i er cs w pc := by
  obtain ⟨i, er, hi, hb, hp⟩ := h
  refine ⟨i, er, hi, hb, ?_⟩
  cases pc with
  | ok x r => exact ⟨hp.1, hp.2.1, hp.2.2.mono (fun k h1 h2 => ⟨h2, h1⟩)⟩
  | bad r e => exact hp
theorem PcAt.kept {D E S : Nat → Prop} {ts : List Tk} {i : Nat} {er : Int} {cs : List Value} {w w' : World} {pc : PR} (h : PcAt D ts i er cs w pc) (hk : Kept S w w') (hs : ∀ k, k < w.heap.size → D k → ¬ S k) (hE : ∀ k, k < w'.heap.size → D k → E k) : PcAt E ts i er cs w' pc := by
  cases pc with
  | ok x r => exact ⟨h.1, h.2.1, (h.2.2.kept_lt hk hs).mono hE⟩
  | bad r e => exact h
theorem PcAt.zero {D : Nat → Prop} {ts : List Tk} {i : Nat} {cs : List Value} {w : World} {pc : PR} (h : PcAt D ts i 0 cs w pc) : ∃ x, pc = .ok x (ts.drop i) ∧ TE D w x cs := by
  cases pc with
  | ok x r => obtain ⟨rfl, -, h⟩ := h; exact ⟨x, rfl, h⟩
  | bad r e => exact absurd rfl h.2.2
theorem PcAt.bad_ {D : Nat → Prop} {ts : List Tk} {i : Nat} {er : Int} {cs : List Value} {w : World} {pc : PR} (h : PcAt D ts i er cs w pc) (hne : er ≠ 0) (lvl : Nat) (next : List Tk → PR) : goes lvl next pc = pc := by
  cases pc with
  | ok x r => exact absurd h.2.1 hne
  | bad r e => rfl
theorem PcAt.wrap {D E : Nat → Prop} {ts : List Tk} {i : Nat} {er : Int} {cs cs' : List Value} {w w' : World} {pc : PR} (f : Ex → Ex) (h : PcAt D ts i er cs w pc) (hk : ∀ y, TE D w y cs → TE E w' (f y) cs') : PcAt E ts i er cs' w' (pc.wrap f) := by
  cases pc with
  | ok x r => exact ⟨h.1, h.2.1, hk x h.2.2⟩
  | bad r e => exact h
def msr (ts : List Tk) (i : Nat) (er : Int) : Nat := if er = 0 then ts.length - i else 0
theorem PcAt.less {D : Nat → Prop} {ts : List Tk} {i j : Nat} {er : Int} {cs : List Value} {w : World} {pn : PR} {next : List Tk → PR} (he : Eats next) (hpn : next (ts.drop (i + 1)) = pn) (h : PcAt D ts j er cs w pn) (hi : i < ts.length) : msr ts j er < msr ts i 0 := by
  unfold msr
  rw [if_pos rfl]
  split
  · rename_i h0
    subst h0
    obtain ⟨x, rfl, -⟩ := h.zero
    have := he _ _ _ hpn
    rw [List.length_drop, List.length_drop] at this
    omega
  · omega
theorem zero_int (w : World) : (zeroValue 3).run Tryd.prog w = .ok (.int .i64 0) w := by kernel_rfl
set_option maxHeartbeats 4000000 in
set_option maxRecDepth 100000 in
theorem join_zero (g c : Nat) (A : Option Addr) (m : Nat → Nat) (ts : List Tk) (dp : Int) (d : Nat) (PC : PlainC g c A m ts dp d) : JoinC g c A m ts dp d 0 := by
  intro deep lv i w hd h0 hlv h
  obtain rfl : lv = 5 := by omega
  have f0 : Below w.heap.size w (w.alloc (.cells #[.int .i64 0, .int .i64 0, .string ⟨#[]⟩, .slice none 0 0] 25)) := (Below.refl _ w).al _
  have x0 := Blk.new w 25 #[.int .i64 0, .int .i64 0, .string ⟨#[]⟩, .slice none 0 0]
  have H0 := Lib.hid (h.below f0)
  have hgl := h.blk.lt
  have lim := h.st.lim
  have hi := h.at_
  have F0 := Lib.hid f0
  have X0 := Lib.hid x0
  have z0 : (w.alloc (.cells #[.int .i64 0, .int .i64 0, .string ⟨#[]⟩, .slice none 0 0] 25)).heap.size = w.heap.size + 1 := by simp
  have PW := Lib.hid (fun W hW => PC deep i W hd h0 hW)
  obtain ⟨pj, hpj⟩ : ∃ p, plainD d (ts.drop i) = p := ⟨_, rfl⟩
  change Calls Tryd.prog 48 _ w (ExTo w g c A m ts dp (plainD d (ts.drop i)))
  rw [hpj]
  rw [hpj] at PW
  clear h f0 x0 hpj
  go_enter Tryd.func48, Tryd.ntmps48
  go_upto_region 2 with fail
  generalize w.alloc (.cells #[.int .i64 0, .int .i64 0, .string ⟨#[]⟩, .slice none 0 0] 25) = W0 at *
  go_wp2_with fail
  refine (PW.out _ H0.out).mono ?_
  rintro e w4 ⟨op, N, nm, B, l, k, rfl, k4, h4⟩
  have x4 := X0.out.kept k4 (by omega)
  have K4 := Lib.hid k4
  have H4 := Lib.hid h4
  clear k4 h4 PW
  have s0 : w4.cell? ⟨w.heap.size, 0, none⟩ = some (.int .i64 0) := x4.cell 0
  have t0 := x4.frozen 0
  have s1 : w4.cell? ⟨w.heap.size, 1, none⟩ = some (.int .i64 0) := x4.cell 1
  have t1 := x4.frozen 1
  have s2 : w4.cell? ⟨w.heap.size, 2, none⟩ = some (.string ⟨#[]⟩) := x4.cell 2
  have t2 := x4.frozen 2
  have s3 : w4.cell? ⟨w.heap.size, 3, none⟩ = some (.slice none 0 0) := x4.cell 3
  have t3 := x4.frozen 3
  go_wp2_with fail
  clear s0 s1 s2 s3
  have X9 := (x4).put4 (.int .i64 op) (.int .i64 N) (.string nm) (.slice B l k)
  have K9 := Kept.put4 w4 w.heap.size (.int .i64 op) (.int .i64 N) (.string nm) (.slice B l k)
  generalize (((w4.setCell ⟨w.heap.size, 0, none⟩ (.int .i64 op)).setCell ⟨w.heap.size, 1, none⟩ (.int .i64 N)).setCell ⟨w.heap.size, 2, none⟩ (.string nm)).setCell ⟨w.heap.size, 3, none⟩ (.slice B l k) = W9 at *
  have s0 : W9.cell? ⟨w.heap.size, 0, none⟩ = some (.int .i64 op) := X9.cell 0
  have s1 : W9.cell? ⟨w.heap.size, 1, none⟩ = some (.int .i64 N) := X9.cell 1
  have s2 : W9.cell? ⟨w.heap.size, 2, none⟩ = some (.string nm) := X9.cell 2
  have s3 : W9.cell? ⟨w.heap.size, 3, none⟩ = some (.slice B l k) := X9.cell 3
  have KK : Kept (fun z => z = g) w W9 := ((Kept.of_below (S := fun z => z = g) F0.out).then_ K4.out (fun _ _ e => e)).then_ K9 (fun z hz e => by omega)
  refine bodyPost_ret (v := .agg #[.int .i64 op, .int .i64 N, .string nm, .slice B l k]) (by simp [results, Tryd.results48, go_sem, s0, s1, s2, s3]) rfl ⟨_, _, _, _, _, _, rfl, KK, ?_⟩
  exact (H4.out.kept_lt K9 (by omega) (fun z _ hz e => by omega)).base_le (by omega)
set_option maxHeartbeats 4000000 in
set_option maxRecDepth 100000 in
theorem join_more (g c : Nat) (A : Option Addr) (m : Nat → Nat) (ts : List Tk) (dp : Int) (d : Nat) (k : Nat) (hk : k < 5) (JC : JoinC g c A m ts dp d k) : JoinC g c A m ts dp d (k + 1) := by
  intro deep lv i w hd h0 hlv h
  have f0 : Below w.heap.size w (w.alloc (.cells #[.int .i64 0, .int .i64 0, .string ⟨#[]⟩, .slice none 0 0] 25)) := (Below.refl _ w).al _
  have x0 := Blk.new w 25 #[.int .i64 0, .int .i64 0, .string ⟨#[]⟩, .slice none 0 0]
  have H0 := Lib.hid (h.below f0)
  have hgl := h.blk.lt
  have lim := h.st.lim
  have hi := h.at_
  have F0 := Lib.hid f0
  have X0 := Lib.hid x0
  have z0 : (w.alloc (.cells #[.int .i64 0, .int .i64 0, .string ⟨#[]⟩, .slice none 0 0] 25)).heap.size = w.heap.size + 1 := by simp
  have JW := Lib.hid (fun W hW => JC deep (lv + 1) i W hd h0 (by omega) hW)
  have JN_ := Lib.hid JC
  have EAT := Lib.hid (joinL_eats (plainD_eats d) k)
  have HLV : lv = ((4 - k : Nat) : Int) := by omega
  have hlvk : 4 - k < 5 := by omega
  obtain ⟨lvn, hlvn⟩ : ∃ q, 4 - k = q := ⟨_, rfl⟩
  rw [hlvn] at HLV hlvk
  rw [joinL_goes]
  obtain ⟨p1, hp1⟩ : ∃ p, joinL (plainD d) k (ts.drop i) = p := ⟨_, rfl⟩
  rw [hp1] at JW ⊢
  obtain ⟨next, hnext⟩ : ∃ q, joinL (plainD d) k = q := ⟨_, rfl⟩
  have HNX := Lib.hid hnext
  rw [hnext] at EAT ⊢
  rw [hlvn]
  have HK := Lib.hid hlvn
  have HLK := Lib.hid hk
  have HLL := Lib.hid hlv
  subst HLV
  obtain ⟨p, hp⟩ : ∃ p, goes lvn next p1 = p := ⟨_, rfl⟩
  rw [hp]
  have HP := Lib.hid hp
  clear h f0 x0 hp1 hp hnext hlvn hk hlv JC
  have w1 : IntKind.i64.wrap ((lvn : Int) + 1) = (lvn : Int) + 1 := IntWalk.i64_in _ ⟨by omega, by omega⟩
  have w5 : ((lvn : Int) == 5) = false := by simp; omega
  go_enter Tryd.func48, Tryd.ntmps48
  go_upto_region 3 with fail
  generalize w.alloc (.cells #[.int .i64 0, .int .i64 0, .string ⟨#[]⟩, .slice none 0 0] 25) = W0 at *
  clear w5
  go_wp2_with fail
  refine (JW.out _ H0.out).mono ?_
  rintro e w4 ⟨o1, N1, nm1, B1, l1, k1, rfl, k4, h4⟩
  have K0 := Lib.hid (Kept.of_below (S := fun z => z = g) F0.out)
  have X4 := Lib.hid ((X0.out.kept k4 (by omega)).alloc (.cells #[.int .i64 o1, .int .i64 N1, .string nm1, .slice B1 l1 k1] 25))
  have K4 := Lib.hid (k4.alloc (.cells #[.int .i64 o1, .int .i64 N1, .string nm1, .slice B1 l1 k1] 25))
  have B4 := Lib.hid (Blk.new w4 25 #[.int .i64 o1, .int .i64 N1, .string nm1, .slice B1 l1 k1])
  have H4 : Hid (ExAt W0.heap.size g c A m ts dp [.int .i64 o1, .int .i64 N1, .string nm1, .slice B1 l1 k1] (w4.alloc (.cells #[.int .i64 o1, .int .i64 N1, .string nm1, .slice B1 l1 k1] 25)) p1) := h4.kept_lt (S := fun _ => False) ((Kept.refl _ w4).alloc _) (fun h => h) (fun _ _ _ h => h)
  have P4 := Lib.hid (H0.out)
  obtain ⟨r7, hr7⟩ : ∃ r, w4.heap.size = r := ⟨_, rfl⟩
  have z4 := k4.size
  obtain ⟨i1, er1, hi1, hb1, hq1⟩ := PcAt.of_ex h4
  have Q1 : Hid (PcAt (fun z => W0.heap.size ≤ z ∧ z ≠ r7) ts i1 er1 [.int .i64 o1, .int .i64 N1, .string nm1, .slice B1 l1 k1] (w4.alloc (.cells #[.int .i64 o1, .int .i64 N1, .string nm1, .slice B1 l1 k1] 25)) p1) := hq1.kept (S := fun _ => False) ((Kept.refl _ w4).alloc _) (fun _ _ _ h => h) (fun z _ hz => ⟨hz.1, by omega⟩)
  have HB1 := Lib.hid (hb1.alloc (.cells #[.int .i64 o1, .int .i64 N1, .string nm1, .slice B1 l1 k1] 25))
  have HI1 := Lib.hid hi1
  have z7 : r7 < (w4.alloc (.cells #[.int .i64 o1, .int .i64 N1, .string nm1, .slice B1 l1 k1] 25)).heap.size := by rw [← hr7]; exact B4.out.lt
  clear k4 h4 JW hq1 hb1 hi1
  go_upto_block 0 with fail
  rw [hr7] at B4
  have z47 : W0.heap.size ≤ r7 := by omega
  clear hr7
  generalize w4.alloc (.cells #[.int .i64 o1, .int .i64 N1, .string nm1, .slice B1 l1 k1] 25) = W4 at *
  go_cut [8] (fun _v wc => ∃ op N nm B l k, Hid (Blk wc r7 25 #[.int .i64 op, .int .i64 N, .string nm, .slice B l k]) ∧ Hid (ExAt W0.heap.size g c A m ts dp [.int .i64 op, .int .i64 N, .string nm, .slice B l k] wc p) ∧ Hid (Kept (fun z => z = g ∨ z = r7) W4 wc))
  case first =>
    go_wp2_with fail
    go_loopg [] (msr ts i1 er1) (fun gk wr => ∃ (op N : Int) (nm : ByteArray) (B : Option Addr) (l k : Nat) (i' : Nat) (er' : Int) (pc : PR), Hid (gk = msr ts i' er') ∧ Hid (i' < ts.length) ∧ Hid (Blk wr r7 25 #[.int .i64 op, .int .i64 N, .string nm, .slice B l k]) ∧ Hid (Blk wr g 103 (parCells A ts.length c m i' dp er')) ∧ Hid (PcAt (fun z => W0.heap.size ≤ z ∧ z ≠ r7) ts i' er' [.int .i64 op, .int .i64 N, .string nm, .slice B l k] wr pc) ∧ Hid (goes lvn next pc = p) ∧ Hid (Kept (fun z => z = g ∨ z = r7) W4 wr))
    case atStart => exact ⟨o1, N1, nm1, B1, l1, k1, i1, er1, p1, rfl, HI1, B4, HB1, Q1, HP, Kept.refl _ _⟩
    case round =>
      clear H4 Q1 B4 HB1
      obtain ⟨op, N, nm, B, l, k2, i', er', pc, hgk, hi', B7, BP, Q, GO, KR⟩ := hrel
      have P : Hid (Par wr g A c m ts i' dp er') := P4.out.put hi'.out BP.out (K4.out.then_ KR.out (fun z hz e => by omega))
      have hgr := P.out.blk.lt
      by_cases he : er' = 0
      · subst he
        obtain ⟨x, rfl, hx⟩ := Q.out.zero
        have HX := Lib.hid hx
        obtain ⟨t', ht'⟩ := ParS.at_some hi'.out
        obtain ⟨b, o, hA, hb, hbg, -, q1, -, -, -⟩ := P.out.st.tok ht'
        have HA := Lib.hid hA
        obtain ⟨n, hn⟩ : ∃ n, ts.length = n := ⟨_, rfl⟩
        have HN := Lib.hid hn
        have LK := (((P.out.below (Below.refl _ wr).drew).st.dict lvn hlvk).lookup (P := Tryd.prog) Tryd.underlying99 Tryd.underlying9 (zero_int wr.drew) t'.text)
        have bp := BP.out
        have cm : wr.cell? ⟨g, 3 + lvn, none⟩ = some (.map (some (m lvn))) := (bp.cell _).trans (par_map hlvk)
        unfold parCells at bp
        rw [hA, hn] at bp
        have c0 : wr.cell? ⟨g, 0, none⟩ = some (.slice (some ⟨b, o, none⟩) n c) := bp.cell 0
        have c1 : wr.cell? ⟨g, 1, none⟩ = some (.int .i64 i') := bp.cell 1
        have c8 : wr.cell? ⟨g, 8, none⟩ = some (.int .i64 0) := bp.cell 8
        have f1 := bp.frozen 1
        have hin := hi'.out
        rw [hn] at hin lim
        have g1 : (0 : Int) ≤ (i' : Int) := by omega
        have g2 : (i' : Int) < (n : Int) := by omega
        have g3 : (0 : Int) ≤ (lvn : Int) := by omega
        have g4 : (lvn : Int) < 5 := by omega
        have HO : Hid (opAt lvn (ts.drop i') = (lvlT lvn).lookup t'.text) := by rw [drop_tok ht']; rfl
        obtain ⟨lk, hlk⟩ : ∃ q, (lvlT lvn).lookup t'.text = q := ⟨_, rfl⟩
        rw [hlk] at LK HO
        have HLK2 := Lib.hid hlk
        have HTT := Lib.hid ht'
        clear hlk hA hn ht' hx Q
        cases lk with
        | none =>
          have HE : Hid (p = .ok x (ts.drop i')) := GO.out.symm.trans (goes_stop HO.out)
          simp only [Option.getD_none, Option.isSome_none] at LK
          go_wp2_with fail
          go_region
          go_wp2_with fail
          go_meet
          case rel => exact ⟨op, N, nm, B, l, k2, B7.out.drew, ⟨i', 0, hi'.out, BP.out.drew, HE.out ▸ ⟨rfl, rfl, (HX.out.kept_lt ((Kept.refl (fun _ => False) wr).drew) (fun _ _ _ h => h)).mono (fun z _ hz => hz.1)⟩⟩, KR.out.drew⟩
        | some op2 =>
          have hmore : i' + 1 < ts.length := P.out.st.more HTT.out (.inr (lookup_ne HLK2.out))
          have HM := Lib.hid hmore
          have GS : Hid (p = if lvn = 2 then (next (ts.drop (i' + 1))).wrap (.bin op2 x) else goes lvn next ((next (ts.drop (i' + 1))).wrap (.bin op2 x))) := by
            rw [Hid, ← GO.out, goes_step EAT.out HO.out, List.tail_drop]
          have JW : Hid (∀ W, Par W g A c m ts (i' + 1) dp 0 → Calls Tryd.prog 48 #[.pointer (some ⟨g, 0, none⟩), .int .i64 ((lvn : Int) + 1), .int .i64 deep] W (ExTo W g c A m ts dp (next (ts.drop (i' + 1))))) := fun W hW => by
            rw [← HNX.out]
            exact JN_.out deep ((lvn : Int) + 1) (i' + 1) W hd h0 (by have := HLL.out; have := HLK.out; omega) hW
          obtain ⟨pn, hpn⟩ : ∃ q, next (ts.drop (i' + 1)) = q := ⟨_, rfl⟩
          rw [hpn] at GS JW
          have HPN := Lib.hid hpn
          clear hpn
          simp only [Option.getD_some, Option.isSome_some] at LK
          go_wp2_with fail
          go_region
          go_upto_region 8 with fail
          have k5 := ((Kept.refl (fun z => z = g) wr).setCell (p := ⟨g, 1, none⟩) (fun _ => rfl) (.int .i64 ((i' : Int) + 1))).drew
          have b5 : Blk (wr.setCell ⟨g, 1, none⟩ (.int .i64 ((i' : Int) + 1))).drew g 103 (parCells A ts.length c m (i' + 1) dp 0) := BP.out.set_ 1 _
          generalize (wr.setCell ⟨g, 1, none⟩ (.int .i64 ((i' : Int) + 1))).drew = W5 at *
          have P5 := Lib.hid (P.out.put HM.out b5 k5)
          have hgr7 : g ≠ r7 := by omega
          have B75 := Lib.hid (B7.out.kept k5 (fun e => hgr7 e.symm))
          have h7r := B7.out.lt
          have K5 := Lib.hid k5
          have z5 := k5.size
          have kk0 := (Kept.refl (fun z => z = g) W5).drew
          have PD := Lib.hid (P5.out.below (Below.refl _ W5).drew)
          clear c0 c1 c8 f1 cm LK q1 hb hbg k5 b5 g1 g2 g3 g4
          have b75 := B75.out
          have e0 : W5.cell? ⟨r7, 0, none⟩ = some (.int .i64 op) := b75.cell 0
          have e1 : W5.cell? ⟨r7, 1, none⟩ = some (.int .i64 N) := b75.cell 1
          have e2 : W5.cell? ⟨r7, 2, none⟩ = some (.string nm) := b75.cell 2
          have e3 : W5.cell? ⟨r7, 3, none⟩ = some (.slice B l k2) := b75.cell 3
          clear b75
          go_region_with (first
            | (go_at_call 48; (with_reducible refine (JW.out _ PD.out).mono ?_); rintro e w6 ⟨o3, N3, nm3, B3, l3, k3, rfl, k6, h6⟩; have kk := kk0.then_ k6 (fun _ _ e => e); have n60 := B75.out.kept kk (fun e => hgr7 e.symm); have i0 : w6.cell? ⟨r7, 0, none⟩ = some (.int .i64 op) := n60.cell 0; have i1 : w6.cell? ⟨r7, 1, none⟩ = some (.int .i64 N) := n60.cell 1; have i2 : w6.cell? ⟨r7, 2, none⟩ = some (.string nm) := n60.cell 2; have i3 : w6.cell? ⟨r7, 3, none⟩ = some (.slice B l k2) := n60.cell 3; have n6 := (fun o => n60.alloc o); have y0 := (fun o => (n6 o).cell 0); have y1 := (fun o => (n6 o).cell 1); have y2 := (fun o => (n6 o).cell 2); have y3 := (fun o => (n6 o).cell 3); have j0 := (fun o => (n6 o).frozen 0); have j1 := (fun o => (n6 o).frozen 1); have j2 := (fun o => (n6 o).frozen 2); have j3 := (fun o => (n6 o).frozen 3)))
          all_goals
            have n8 := Blk.new w6 25 #[.int .i64 op, .int .i64 N, .string nm, .slice B l k2, .int .i64 o3, .int .i64 N3, .string nm3, .slice B3 l3 k3]
            have k8 := (kk.alloc (.cells #[.int .i64 op, .int .i64 N, .string nm, .slice B l k2, .int .i64 o3, .int .i64 N3, .string nm3, .slice B3 l3 k3] 25))
            have KP := Kept.put4 (w6.alloc (.cells #[.int .i64 op, .int .i64 N, .string nm, .slice B l k2, .int .i64 o3, .int .i64 N3, .string nm3, .slice B3 l3 k3] 25)) r7 (.int .i64 op2) (.int .i64 0) (.string ⟨#[]⟩) (.slice (some ⟨w6.heap.size, 0, none⟩) 2 2)
            have BP9 := (n6 (.cells #[.int .i64 op, .int .i64 N, .string nm, .slice B l k2, .int .i64 o3, .int .i64 N3, .string nm3, .slice B3 l3 k3] 25)).put4 (.int .i64 op2) (.int .i64 0) (.string ⟨#[]⟩) (.slice (some ⟨w6.heap.size, 0, none⟩) 2 2)
            have h7w := n60.lt
            have hb8' := n8.kept KP (by omega)
            have K6 : Kept (fun z => z = r7) w6 _ := ((Kept.refl (fun z => z = r7) w6).alloc _).then_ KP (fun _ _ e => e)
            clear n6 y0 y1 y2 y3 j0 j1 j2 j3 i0 i1 i2 i3 e0 e1 e2 e3 KP
            generalize ((((w6.alloc (.cells #[.int .i64 op, .int .i64 N, .string nm, .slice B l k2, .int .i64 o3, .int .i64 N3, .string nm3, .slice B3 l3 k3] 25)).setCell ⟨r7, 0, none⟩ (.int .i64 op2)).setCell ⟨r7, 1, none⟩ (.int .i64 0)).setCell ⟨r7, 2, none⟩ (.string ⟨#[]⟩)).setCell ⟨r7, 3, none⟩ (.slice (some ⟨w6.heap.size, 0, none⟩) 2 2) = W9 at *
            have z6 := kk.size
            have hb8 : Blk W9 w6.heap.size 25 (List.toArray ([.int .i64 op, .int .i64 N, .string nm, .slice B l k2] ++ [.int .i64 o3, .int .i64 N3, .string nm3, .slice B3 l3 k3])) := hb8'
            obtain ⟨i6, er6, hi6, hb6, hq6⟩ := PcAt.of_ex h6
            have hb69 := hb6.kept K6 hgr7
            have K59 : Kept (fun z => z = g ∨ z = r7) W5 W9 := (kk.mono (T := fun z => z = g ∨ z = r7) (fun _ _ e => .inl e)).then_ K6 (fun z _ e => .inr e)
            have KR9 : Kept (fun z => z = g ∨ z = r7) W4 W9 := (KR.out.then_ K5.out (fun _ _ e => .inl e)).then_ K59 (fun _ _ e => e)
            have hx9 : TE (fun z => W0.heap.size ≤ z ∧ z ≠ r7) W9 x [.int .i64 op, .int .i64 N, .string nm, .slice B l k2] := HX.out.kept_lt ((K5.out.mono (T := fun z => z = g ∨ z = r7) (fun _ _ e => .inl e)).then_ K59 (fun _ _ e => e)) (fun z _ hz e => e.elim (fun e => by omega) (fun e => hz.2 e))
            have hw5 : W5.drew.heap.size = W5.heap.size := rfl
            have hq9 : PcAt (fun z => W0.heap.size ≤ z ∧ z ≠ r7) ts i6 er6 [.int .i64 op2, .int .i64 0, .string ⟨#[]⟩, .slice (some ⟨w6.heap.size, 0, none⟩) 2 2] W9 (pn.wrap (.bin op2 x)) :=
              hq6.wrap (.bin op2 x) (fun y hy => ⟨w6.heap.size, _, _, rfl, ⟨by omega, by omega⟩, hb8, hx9, (hy.kept_lt K6 (fun z _ hz e => by omega)).mono (fun z _ hz => ⟨by omega, by omega⟩)⟩)
            have HLT := Lib.hid (PcAt.less EAT.out HPN.out hq6 hi'.out)
            have HQ9 := Lib.hid hq9
            have HB9 := Lib.hid hb69
            have HI6 := Lib.hid hi6
            have H9 := Lib.hid BP9
            have HK9 := Lib.hid KR9
            clear hq9 hb69 hi6 BP9 KR9 hx9 K59 hq6 hb6 h6 hb8 n8 k8 kk n60
            by_cases h2 : lvn = 2
            · have h2' : ((lvn : Int) == 2) = true := by simp [h2]
              have HE : Hid (p = pn.wrap (.bin op2 x)) := by have := GS.out; rw [if_pos h2] at this; exact this
              clear h2
              go_wp2_with fail
              go_meet
              case rel => exact ⟨_, _, _, _, _, _, H9, HE.out ▸ HQ9.out.ex (fun z hz => hz.1) HI6.out HB9.out, HK9⟩
            · have h2' : ((lvn : Int) == 2) = false := by simp; omega
              have HE : Hid (goes lvn next (pn.wrap (.bin op2 x)) = p) := by have := GS.out; rw [if_neg h2] at this; exact this.symm
              clear h2
              go_wp2_with fail
              go_roundg (msr ts i6 er6)
              case rel => exact ⟨_, _, _, _, _, _, i6, er6, _, rfl, HI6, H9, HB9, HQ9, HE, HK9⟩
              case measure => rw [hgk.out]; exact HLT.out
      · have he' : (er' == 0) = false := by simp [he]
        have bp := BP.out
        unfold parCells at bp
        have c8 : wr.cell? ⟨g, 8, none⟩ = some (.int .i64 er') := bp.cell 8
        have HE : Hid (p = pc) := GO.out.symm.trans (Q.out.bad_ he lvn next)
        clear bp
        go_wp2_with fail
        go_meet
        case rel => exact ⟨op, N, nm, B, l, k2, B7, HE.out ▸ Q.out.ex (fun z hz => hz.1) hi'.out BP.out, KR⟩
  case rest =>
    obtain ⟨op, N, nm, B, l, k, B7, H9, KR⟩ := hcut
    obtain ⟨wr, rfl⟩ : ∃ x, x = wc := ⟨_, rfl⟩
    have x7 := X4.out.kept KR.out (by omega)
    have b7 := B7.out
    have y0 : wr.cell? ⟨r7, 0, none⟩ = some (.int .i64 op) := b7.cell 0
    have y1 : wr.cell? ⟨r7, 1, none⟩ = some (.int .i64 N) := b7.cell 1
    have y2 : wr.cell? ⟨r7, 2, none⟩ = some (.string nm) := b7.cell 2
    have y3 : wr.cell? ⟨r7, 3, none⟩ = some (.slice B l k) := b7.cell 3
    have s0 : wr.cell? ⟨w.heap.size, 0, none⟩ = some (.int .i64 0) := x7.cell 0
    have t0 := x7.frozen 0
    have s1 : wr.cell? ⟨w.heap.size, 1, none⟩ = some (.int .i64 0) := x7.cell 1
    have t1 := x7.frozen 1
    have s2 : wr.cell? ⟨w.heap.size, 2, none⟩ = some (.string ⟨#[]⟩) := x7.cell 2
    have t2 := x7.frozen 2
    have s3 : wr.cell? ⟨w.heap.size, 3, none⟩ = some (.slice none 0 0) := x7.cell 3
    have t3 := x7.frozen 3
    go_wp2_with fail
    clear s0 s1 s2 s3
    have X9 := (x7).put4 (.int .i64 op) (.int .i64 N) (.string nm) (.slice B l k)
    have K9 := Kept.put4 wr w.heap.size (.int .i64 op) (.int .i64 N) (.string nm) (.slice B l k)
    generalize (((wr.setCell ⟨w.heap.size, 0, none⟩ (.int .i64 op)).setCell ⟨w.heap.size, 1, none⟩ (.int .i64 N)).setCell ⟨w.heap.size, 2, none⟩ (.string nm)).setCell ⟨w.heap.size, 3, none⟩ (.slice B l k) = W9 at *
    have s0 : W9.cell? ⟨w.heap.size, 0, none⟩ = some (.int .i64 op) := X9.cell 0
    have s1 : W9.cell? ⟨w.heap.size, 1, none⟩ = some (.int .i64 N) := X9.cell 1
    have s2 : W9.cell? ⟨w.heap.size, 2, none⟩ = some (.string nm) := X9.cell 2
    have s3 : W9.cell? ⟨w.heap.size, 3, none⟩ = some (.slice B l k) := X9.cell 3
    have KK : Kept (fun z => z = g) w W9 := ((K0.out.then_ K4.out (fun _ _ e => e)).then_ KR.out (fun z hz e => by omega)).then_ K9 (fun z hz e => by omega)
    refine bodyPost_ret (v := .agg #[.int .i64 op, .int .i64 N, .string nm, .slice B l k]) (by simp [results, Tryd.results48, go_sem, s0, s1, s2, s3]) rfl ⟨_, _, _, _, _, _, rfl, KK, ?_⟩
    exact (H9.out.kept_lt K9 (by omega) (fun z _ hz e => by omega)).base_le (by omega)
end Go.Proofs.YtdmlnoeneoomfaaDoor
