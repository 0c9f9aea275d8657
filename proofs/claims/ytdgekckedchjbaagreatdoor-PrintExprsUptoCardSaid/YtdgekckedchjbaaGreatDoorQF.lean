
/-
  The parser's join. (Printed by wip/tools/gens6.py.) The table of what joins. (Printed by wip/tools/gens7.py.) The parser's expression, and the closure that keeps it. The parser of programs in memory: how its steps are told; single tokens. The parser of programs: a number with a sign; which token comes next. The parser of programs: is the next token the first one of a statement?
-/
import Derived.Test.YtdgekckedchjbaaGreatDoorS5
import Derived.Deep.RegionHeld3
import Derived.Deep.DeepCutAuto
import Derived.Deep.LoopGhost
import Derived.Test.YtdgekckedchjbaaGreatDoorQB
namespace Go.Proofs.YtdgekckedchjbaaGreatDoor
open Go.RowKit

def goes (lvl : Nat) (next : List Tk → PR) : PR → PR
  | .bad r e => .bad r e
  | .ok x r => loopJ lvl next r.length x r
theorem joinL_goes (plain : List Tk → PR) (k : Nat) (r : List Tk) : joinL plain (k + 1) r = goes (4 - k) (joinL plain k) (joinL plain k r) := by
  simp only [joinL]
  cases joinL plain k r <;> rfl
theorem goes_stop {lvl : Nat} {next : List Tk → PR} {x : Ex} {r : List Tk} (h : opAt lvl r = none) : goes lvl next (.ok x r) = .ok x r := by
  simp only [goes]
  cases hl : r.length with
  | zero => rfl
  | succ n => simp only [loopJ, h]
theorem goes_step {lvl : Nat} {next : List Tk → PR} (he : Eats next) {x : Ex} {r : List Tk} {op : Int} (h : opAt lvl r = some op) : goes lvl next (.ok x r) = if lvl = 2 then (next r.tail).wrap (.bin op x) else goes lvl next ((next r.tail).wrap (.bin op x)) := by
  cases r with
  | nil => simp [opAt] at h
  | cons t r =>
    simp only [goes, List.length_cons, loopJ, h, List.tail_cons]
    cases hq : next r with
    | bad r2 e => simp [PR.wrap]
    | ok e2 r2 =>
      simp only [PR.wrap]
      have h3 := he _ _ _ hq
      split
      · rfl
      · exact loopJ_more he _ r2 (Nat.le_refl _) _ _ (by omega)
theorem lookup_ne {l : Nat} {x : List UInt8} {op : Int} (h : (lvlT l).lookup x = some op) : x ≠ [] := by
  rintro rfl
  match l with
  | 0 | 1 | 2 | 3 | 4 => exact absurd (show (none : Option Int) = some op from h) (by simp)
  | _ + 5 => exact absurd (show (none : Option Int) = some op from h) (by simp)
theorem par_map {A : Option Addr} {n c : Nat} {m : Nat → Nat} {i : Nat} {dp er : Int} : ∀ {l : Nat}, l < 5 → (parCells A n c m i dp er)[3 + l]? = some (.map (some (m l)))
  | 0, _ => rfl
  | 1, _ => rfl
  | 2, _ => rfl
  | 3, _ => rfl
  | 4, _ => rfl
  | _ + 5, h => absurd h (by omega)
def PcAt (D : Nat → Prop) (ts : List Tk) (i : Nat) (er : Int) (cs : List Value) (w : World) (pc : PR) : Prop := match pc with
  | .ok x r => r = ts.drop i ∧ er = 0 ∧ TE D w x cs
  | .bad r e => r = ts.drop i ∧ e = er ∧ er ≠ 0
theorem PcAt.ex {base g c : Nat} {A : Option Addr} {m : Nat → Nat} {ts : List Tk} {i : Nat} {dp er : Int} {cs : List Value} {w : World} {pc : PR} {D : Nat → Prop} (h : PcAt D ts i er cs w pc) (hD : ∀ k, D k → base ≤ k) (hi : i < ts.length) (hb : Blk w g 119 (parCells A ts.length c m i dp er)) : ExAt base g c A m ts dp cs w pc := by
  refine ⟨i, er, hi, hb, ?_⟩
  cases pc with
  | ok x r => exact ⟨h.1, h.2.1, h.2.2.mono (fun k _ => hD k)⟩
  | bad r e => exact h
theorem PcAt.of_ex {base g c : Nat} {A : Option Addr} {m : Nat → Nat} {ts : List Tk} {dp : Int} {cs : List Value} {w : World} {pc : PR} (h : ExAt base g c A m ts dp cs w pc) : ∃ i er, i < ts.length ∧ Blk w g 119 (parCells A ts.length c m i dp er) ∧ PcAt (fun k => base ≤ k ∧ k < w.heap.size) ts i er cs w pc := by
  obtain ⟨i, er, hi, hb, hp⟩ := h
  refine ⟨i, er, hi, hb, ?_⟩
  cases pc with
  | ok x r => exact ⟨hp.1, hp.2.1, hp.2.2.mono (fun k h1 h2 => ⟨h2, h1⟩)⟩
  | bad r e => exact hp
theorem PcAt.kept {D E S : Nat → Prop} {ts : List Tk} {i : Nat} {er : Int} {cs : List Value} {w w' : World} {pc : PR} (h : PcAt D ts i er cs w pc) (hk : Kept S w w') (hs : ∀ k, k < w.heap.size → D k → ¬ S k) (hE : ∀ k, k < w'.heap.size → D k → E k) : PcAt E ts i er cs w' pc := by
  cases pc with
  | ok x r => exact ⟨h.1, h.2.1, (h.2.2.kept_lt hk hs).mono hE⟩
  | bad r e => exact h
theorem PcAt.zero {D : Nat → Prop} {ts : List Tk} {i : Nat} {cs : List Value} {w : World} {pc : PR} (h : PcAt D ts i 0 cs w pc) : ∃ x, pc = .ok x (ts.drop i) ∧ TE D w x cs := by
  cases pc with
  | ok x r => obtain ⟨rfl, -, h⟩ := h; exact ⟨x, rfl, h⟩
  | bad r e => exact absurd rfl h.2.2
theorem PcAt.bad_ {D : Nat → Prop} {ts : List Tk} {i : Nat} {er : Int} {cs : List Value} {w : World} {pc : PR} (h : PcAt D ts i er cs w pc) (hne : er ≠ 0) (lvl : Nat) (next : List Tk → PR) : goes lvl next pc = pc := by
  cases pc with
  | ok x r => exact absurd h.2.1 hne
  | bad r e => rfl
theorem PcAt.wrap {D E : Nat → Prop} {ts : List Tk} {i : Nat} {er : Int} {cs cs' : List Value} {w w' : World} {pc : PR} (f : Ex → Ex) (h : PcAt D ts i er cs w pc) (hk : ∀ y, TE D w y cs → TE E w' (f y) cs') : PcAt E ts i er cs' w' (pc.wrap f) := by
  cases pc with
  | ok x r => exact ⟨h.1, h.2.1, hk x h.2.2⟩
  | bad r e => exact h
def msr (ts : List Tk) (i : Nat) (er : Int) : Nat := if er = 0 then ts.length - i else 0
theorem PcAt.less {D : Nat → Prop} {ts : List Tk} {i j : Nat} {er : Int} {cs : List Value} {w : World} {pn : PR} {next : List Tk → PR} (he : Eats next) (hpn : next (ts.drop (i + 1)) = pn) (h : PcAt D ts j er cs w pn) (hi : i < ts.length) : msr ts j er < msr ts i 0 := by
  unfold msr
  rw [if_pos rfl]
  split
  · rename_i h0
    subst h0
    obtain ⟨x, rfl, -⟩ := h.zero
    have := he _ _ _ hpn
    rw [List.length_drop, List.length_drop] at this
    omega
  · omega
theorem zero_int (w : World) : (zeroValue 3).run Tryz.prog w = .ok (.int .i64 0) w := by kernel_rfl
set_option maxHeartbeats 4000000 in
set_option maxRecDepth 100000 in
theorem join_zero (g c : Nat) (A : Option Addr) (m : Nat → Nat) (ts : List Tk) (dp : Int) (d : Nat) (PC : PlainC g c A m ts dp d) : JoinC g c A m ts dp d 0 := by
  intro deep lv i w hd h0 hlv h
  obtain rfl : lv = 5 := by omega
  have f0 : Below w.heap.size w (w.alloc (.cells #[.int .i64 0, .int .i64 0, .string ⟨#[]⟩, .slice none 0 0] 40)) := (Below.refl _ w).al _
  have x0 := Blk.new w 40 #[.int .i64 0, .int .i64 0, .string ⟨#[]⟩, .slice none 0 0]
  have H0 := Lib.hid (h.below f0)
  have hgl := h.blk.lt
  have lim := h.st.lim
  have hi := h.at_
  have F0 := Lib.hid f0
  have X0 := Lib.hid x0
  have z0 : (w.alloc (.cells #[.int .i64 0, .int .i64 0, .string ⟨#[]⟩, .slice none 0 0] 40)).heap.size = w.heap.size + 1 := by simp
  have PW := Lib.hid (fun W hW => PC deep i W hd h0 hW)
  obtain ⟨pj, hpj⟩ : ∃ p, plainD d (ts.drop i) = p := ⟨_, rfl⟩
  change Calls Tryz.prog 77 _ w (ExTo w g c A m ts dp (plainD d (ts.drop i)))
  rw [hpj]
  rw [hpj] at PW
  clear h f0 x0 hpj
  go_enter Tryz.func77, Tryz.ntmps77
  go_upto_region 2 with fail
  generalize w.alloc (.cells #[.int .i64 0, .int .i64 0, .string ⟨#[]⟩, .slice none 0 0] 40) = W0 at *
  go_wp2_with fail
  refine (PW.out _ H0.out).mono ?_
  rintro e w4 ⟨op, N, nm, B, l, k, rfl, k4, h4⟩
  have x4 := X0.out.kept k4 (by omega)
  have K4 := Lib.hid k4
  have H4 := Lib.hid h4
  clear k4 h4 PW
  have s0 : w4.cell? ⟨w.heap.size, 0, none⟩ = some (.int .i64 0) := x4.cell 0
  have t0 := x4.frozen 0
  have s1 : w4.cell? ⟨w.heap.size, 1, none⟩ = some (.int .i64 0) := x4.cell 1
  have t1 := x4.frozen 1
  have s2 : w4.cell? ⟨w.heap.size, 2, none⟩ = some (.string ⟨#[]⟩) := x4.cell 2
  have t2 := x4.frozen 2
  have s3 : w4.cell? ⟨w.heap.size, 3, none⟩ = some (.slice none 0 0) := x4.cell 3
  have t3 := x4.frozen 3
  go_wp2_with fail
  clear s0 s1 s2 s3
  have X9 := (x4).put4 (.int .i64 op) (.int .i64 N) (.string nm) (.slice B l k)
  have K9 := Kept.put4 w4 w.heap.size (.int .i64 op) (.int .i64 N) (.string nm) (.slice B l k)
  generalize (((w4.setCell ⟨w.heap.size, 0, none⟩ (.int .i64 op)).setCell ⟨w.heap.size, 1, none⟩ (.int .i64 N)).setCell ⟨w.heap.size, 2, none⟩ (.string nm)).setCell ⟨w.heap.size, 3, none⟩ (.slice B l k) = W9 at *
  have s0 : W9.cell? ⟨w.heap.size, 0, none⟩ = some (.int .i64 op) := X9.cell 0
  have s1 : W9.cell? ⟨w.heap.size, 1, none⟩ = some (.int .i64 N) := X9.cell 1
  have s2 : W9.cell? ⟨w.heap.size, 2, none⟩ = some (.string nm) := X9.cell 2
  have s3 : W9.cell? ⟨w.heap.size, 3, none⟩ = some (.slice B l k) := X9.cell 3
  have KK : Kept (fun z => z = g) w W9 := ((Kept.of_below (S := fun z => z = g) F0.out).then_ K4.out (fun _ _ e => e)).then_ K9 (fun z hz e => by omega)
  refine bodyPost_ret (v := .agg #[.int .i64 op, .int .i64 N, .string nm, .slice B l k]) (by simp [results, Tryz.results77, go_sem, s0, s1, s2, s3]) rfl ⟨_, _, _, _, _, _, rfl, KK, ?_⟩
  exact (H4.out.kept_lt K9 (by omega) (fun z _ hz e => by omega)).base_le (by omega)
set_option maxHeartbeats 4000000 in
set_option maxRecDepth 100000 in
theorem join_more (g c : Nat) (A : Option Addr) (m : Nat → Nat) (ts : List Tk) (dp : Int) (d : Nat) (k : Nat) (hk : k < 5) (JC : JoinC g c A m ts dp d k) : JoinC g c A m ts dp d (k + 1) := by
  intro deep lv i w hd h0 hlv h
  have f0 : Below w.heap.size w (w.alloc (.cells #[.int .i64 0, .int .i64 0, .string ⟨#[]⟩, .slice none 0 0] 40)) := (Below.refl _ w).al _
  have x0 := Blk.new w 40 #[.int .i64 0, .int .i64 0, .string ⟨#[]⟩, .slice none 0 0]
  have H0 := Lib.hid (h.below f0)
  have hgl := h.blk.lt
  have lim := h.st.lim
  have hi := h.at_
  have F0 := Lib.hid f0
  have X0 := Lib.hid x0
  have z0 : (w.alloc (.cells #[.int .i64 0, .int .i64 0, .string ⟨#[]⟩, .slice none 0 0] 40)).heap.size = w.heap.size + 1 := by simp
  have JW := Lib.hid (fun W hW => JC deep (lv + 1) i W hd h0 (by omega) hW)
  have JN_ := Lib.hid JC
  have EAT := Lib.hid (joinL_eats (plainD_eats d) k)
  have HLV : lv = ((4 - k : Nat) : Int) := by omega
  have hlvk : 4 - k < 5 := by omega
  obtain ⟨lvn, hlvn⟩ : ∃ q, 4 - k = q := ⟨_, rfl⟩
  rw [hlvn] at HLV hlvk
  rw [joinL_goes]
  obtain ⟨p1, hp1⟩ : ∃ p, joinL (plainD d) k (ts.drop i) = p := ⟨_, rfl⟩
  rw [hp1] at JW ⊢
  obtain ⟨next, hnext⟩ : ∃ q, joinL (plainD d) k = q := ⟨_, rfl⟩
  have HNX := Lib.hid hnext
  rw [hnext] at EAT ⊢
  rw [hlvn]
  have HK := Lib.hid hlvn
  have HLK := Lib.hid hk
  have HLL := Lib.hid hlv
  subst HLV
  obtain ⟨p, hp⟩ : ∃ p, goes lvn next p1 = p := ⟨_, rfl⟩
  rw [hp]
  have HP := Lib.hid hp
  clear h f0 x0 hp1 hp hnext hlvn hk hlv JC
  have w1 : IntKind.i64.wrap ((lvn : Int) + 1) = (lvn : Int) + 1 := IntWalk.i64_in _ ⟨by omega, by omega⟩
  have w5 : ((lvn : Int) == 5) = false := by simp; omega
  go_enter Tryz.func77, Tryz.ntmps77
  go_upto_region 3 with fail
  generalize w.alloc (.cells #[.int .i64 0, .int .i64 0, .string ⟨#[]⟩, .slice none 0 0] 40) = W0 at *
  clear w5
  go_wp2_with fail
  refine (JW.out _ H0.out).mono ?_
  rintro e w4 ⟨o1, N1, nm1, B1, l1, k1, rfl, k4, h4⟩
  have K0 := Lib.hid (Kept.of_below (S := fun z => z = g) F0.out)
  have X4 := Lib.hid ((X0.out.kept k4 (by omega)).alloc (.cells #[.int .i64 o1, .int .i64 N1, .string nm1, .slice B1 l1 k1] 40))
  have K4 := Lib.hid (k4.alloc (.cells #[.int .i64 o1, .int .i64 N1, .string nm1, .slice B1 l1 k1] 40))
  have B4 := Lib.hid (Blk.new w4 40 #[.int .i64 o1, .int .i64 N1, .string nm1, .slice B1 l1 k1])
  have H4 : Hid (ExAt W0.heap.size g c A m ts dp [.int .i64 o1, .int .i64 N1, .string nm1, .slice B1 l1 k1] (w4.alloc (.cells #[.int .i64 o1, .int .i64 N1, .string nm1, .slice B1 l1 k1] 40)) p1) := h4.kept_lt (S := fun _ => False) ((Kept.refl _ w4).alloc _) (fun h => h) (fun _ _ _ h => h)
  have P4 := Lib.hid (H0.out)
  obtain ⟨r7, hr7⟩ : ∃ r, w4.heap.size = r := ⟨_, rfl⟩
  have z4 := k4.size
  obtain ⟨i1, er1, hi1, hb1, hq1⟩ := PcAt.of_ex h4
  have Q1 : Hid (PcAt (fun z => W0.heap.size ≤ z ∧ z ≠ r7) ts i1 er1 [.int .i64 o1, .int .i64 N1, .string nm1, .slice B1 l1 k1] (w4.alloc (.cells #[.int .i64 o1, .int .i64 N1, .string nm1, .slice B1 l1 k1] 40)) p1) := hq1.kept (S := fun _ => False) ((Kept.refl _ w4).alloc _) (fun _ _ _ h => h) (fun z _ hz => ⟨hz.1, by omega⟩)
  have HB1 := Lib.hid (hb1.alloc (.cells #[.int .i64 o1, .int .i64 N1, .string nm1, .slice B1 l1 k1] 40))
  have HI1 := Lib.hid hi1
  have z7 : r7 < (w4.alloc (.cells #[.int .i64 o1, .int .i64 N1, .string nm1, .slice B1 l1 k1] 40)).heap.size := by rw [← hr7]; exact B4.out.lt
  clear k4 h4 JW hq1 hb1 hi1
  go_upto_block 0 with fail
  rw [hr7] at B4
  have z47 : W0.heap.size ≤ r7 := by omega
  clear hr7
  generalize w4.alloc (.cells #[.int .i64 o1, .int .i64 N1, .string nm1, .slice B1 l1 k1] 40) = W4 at *
  go_cut [8] (fun _v wc => ∃ op N nm B l k, Hid (Blk wc r7 40 #[.int .i64 op, .int .i64 N, .string nm, .slice B l k]) ∧ Hid (ExAt W0.heap.size g c A m ts dp [.int .i64 op, .int .i64 N, .string nm, .slice B l k] wc p) ∧ Hid (Kept (fun z => z = g ∨ z = r7) W4 wc))
  case first =>
    go_wp2_with fail
    go_loopg [] (msr ts i1 er1) (fun gk wr => ∃ (op N : Int) (nm : ByteArray) (B : Option Addr) (l k : Nat) (i' : Nat) (er' : Int) (pc : PR), Hid (gk = msr ts i' er') ∧ Hid (i' < ts.length) ∧ Hid (Blk wr r7 40 #[.int .i64 op, .int .i64 N, .string nm, .slice B l k]) ∧ Hid (Blk wr g 119 (parCells A ts.length c m i' dp er')) ∧ Hid (PcAt (fun z => W0.heap.size ≤ z ∧ z ≠ r7) ts i' er' [.int .i64 op, .int .i64 N, .string nm, .slice B l k] wr pc) ∧ Hid (goes lvn next pc = p) ∧ Hid (Kept (fun z => z = g ∨ z = r7) W4 wr))
    case atStart => exact ⟨o1, N1, nm1, B1, l1, k1, i1, er1, p1, rfl, HI1, B4, HB1, Q1, HP, Kept.refl _ _⟩
    case round =>
      clear H4 Q1 B4 HB1
      obtain ⟨op, N, nm, B, l, k2, i', er', pc, hgk, hi', B7, BP, Q, GO, KR⟩ := hrel
      have P : Hid (Par wr g A c m ts i' dp er') := P4.out.put hi'.out BP.out (K4.out.then_ KR.out (fun z hz e => by omega))
      have hgr := P.out.blk.lt
      by_cases he : er' = 0
      · subst he
        obtain ⟨x, rfl, hx⟩ := Q.out.zero
        have HX := Lib.hid hx
        obtain ⟨t', ht'⟩ := ParS.at_some hi'.out
        obtain ⟨b, o, hA, hb, hbg, -, q1, -, -, -⟩ := P.out.st.tok ht'
        have HA := Lib.hid hA
        obtain ⟨n, hn⟩ : ∃ n, ts.length = n := ⟨_, rfl⟩
        have HN := Lib.hid hn
        have LK := (((P.out.below (Below.refl _ wr).drew).st.dict lvn hlvk).lookup (P := Tryz.prog) Tryz.underlying115 Tryz.underlying9 (zero_int wr.drew) t'.text)
        have bp := BP.out
        have cm : wr.cell? ⟨g, 3 + lvn, none⟩ = some (.map (some (m lvn))) := (bp.cell _).trans (par_map hlvk)
        unfold parCells at bp
        rw [hA, hn] at bp
        have c0 : wr.cell? ⟨g, 0, none⟩ = some (.slice (some ⟨b, o, none⟩) n c) := bp.cell 0
        have c1 : wr.cell? ⟨g, 1, none⟩ = some (.int .i64 i') := bp.cell 1
        have c8 : wr.cell? ⟨g, 8, none⟩ = some (.int .i64 0) := bp.cell 8
        have f1 := bp.frozen 1
        have hin := hi'.out
        rw [hn] at hin lim
        have g1 : (0 : Int) ≤ (i' : Int) := by omega
        have g2 : (i' : Int) < (n : Int) := by omega
        have g3 : (0 : Int) ≤ (lvn : Int) := by omega
        have g4 : (lvn : Int) < 5 := by omega
        have HO : Hid (opAt lvn (ts.drop i') = (lvlT lvn).lookup t'.text) := by rw [drop_tok ht']; rfl
        obtain ⟨lk, hlk⟩ : ∃ q, (lvlT lvn).lookup t'.text = q := ⟨_, rfl⟩
        rw [hlk] at LK HO
        have HLK2 := Lib.hid hlk
        have HTT := Lib.hid ht'
        clear hlk hA hn ht' hx Q
        cases lk with
        | none =>
          have HE : Hid (p = .ok x (ts.drop i')) := GO.out.symm.trans (goes_stop HO.out)
          simp only [Option.getD_none, Option.isSome_none] at LK
          go_wp2_with fail
          go_region
          go_wp2_with fail
          go_meet
          case rel => exact ⟨op, N, nm, B, l, k2, B7.out.drew, ⟨i', 0, hi'.out, BP.out.drew, HE.out ▸ ⟨rfl, rfl, (HX.out.kept_lt ((Kept.refl (fun _ => False) wr).drew) (fun _ _ _ h => h)).mono (fun z _ hz => hz.1)⟩⟩, KR.out.drew⟩
        | some op2 =>
          have hmore : i' + 1 < ts.length := P.out.st.more HTT.out (.inr (lookup_ne HLK2.out))
          have HM := Lib.hid hmore
          have GS : Hid (p = if lvn = 2 then (next (ts.drop (i' + 1))).wrap (.bin op2 x) else goes lvn next ((next (ts.drop (i' + 1))).wrap (.bin op2 x))) := by
            rw [Hid, ← GO.out, goes_step EAT.out HO.out, List.tail_drop]
          have JW : Hid (∀ W, Par W g A c m ts (i' + 1) dp 0 → Calls Tryz.prog 77 #[.pointer (some ⟨g, 0, none⟩), .int .i64 ((lvn : Int) + 1), .int .i64 deep] W (ExTo W g c A m ts dp (next (ts.drop (i' + 1))))) := fun W hW => by
            rw [← HNX.out]
            exact JN_.out deep ((lvn : Int) + 1) (i' + 1) W hd h0 (by have := HLL.out; have := HLK.out; omega) hW
          obtain ⟨pn, hpn⟩ : ∃ q, next (ts.drop (i' + 1)) = q := ⟨_, rfl⟩
          rw [hpn] at GS JW
          have HPN := Lib.hid hpn
          clear hpn
          simp only [Option.getD_some, Option.isSome_some] at LK
          go_wp2_with fail
          go_region
          go_upto_region 8 with fail
          have k5 := ((Kept.refl (fun z => z = g) wr).setCell (p := ⟨g, 1, none⟩) (fun _ => rfl) (.int .i64 ((i' : Int) + 1))).drew
          have b5 : Blk (wr.setCell ⟨g, 1, none⟩ (.int .i64 ((i' : Int) + 1))).drew g 119 (parCells A ts.length c m (i' + 1) dp 0) := BP.out.set_ 1 _
          generalize (wr.setCell ⟨g, 1, none⟩ (.int .i64 ((i' : Int) + 1))).drew = W5 at *
          have P5 := Lib.hid (P.out.put HM.out b5 k5)
          have hgr7 : g ≠ r7 := by omega
          have B75 := Lib.hid (B7.out.kept k5 (fun e => hgr7 e.symm))
          have h7r := B7.out.lt
          have K5 := Lib.hid k5
          have z5 := k5.size
          have kk0 := (Kept.refl (fun z => z = g) W5).drew
          have PD := Lib.hid (P5.out.below (Below.refl _ W5).drew)
          clear c0 c1 c8 f1 cm LK q1 hb hbg k5 b5 g1 g2 g3 g4
          have b75 := B75.out
          have e0 : W5.cell? ⟨r7, 0, none⟩ = some (.int .i64 op) := b75.cell 0
          have e1 : W5.cell? ⟨r7, 1, none⟩ = some (.int .i64 N) := b75.cell 1
          have e2 : W5.cell? ⟨r7, 2, none⟩ = some (.string nm) := b75.cell 2
          have e3 : W5.cell? ⟨r7, 3, none⟩ = some (.slice B l k2) := b75.cell 3
          clear b75
          go_region_with (first
            | (go_at_call 77; (with_reducible refine (JW.out _ PD.out).mono ?_); rintro e w6 ⟨o3, N3, nm3, B3, l3, k3, rfl, k6, h6⟩; have kk := kk0.then_ k6 (fun _ _ e => e); have n60 := B75.out.kept kk (fun e => hgr7 e.symm); have i0 : w6.cell? ⟨r7, 0, none⟩ = some (.int .i64 op) := n60.cell 0; have i1 : w6.cell? ⟨r7, 1, none⟩ = some (.int .i64 N) := n60.cell 1; have i2 : w6.cell? ⟨r7, 2, none⟩ = some (.string nm) := n60.cell 2; have i3 : w6.cell? ⟨r7, 3, none⟩ = some (.slice B l k2) := n60.cell 3; have n6 := (fun o => n60.alloc o); have y0 := (fun o => (n6 o).cell 0); have y1 := (fun o => (n6 o).cell 1); have y2 := (fun o => (n6 o).cell 2); have y3 := (fun o => (n6 o).cell 3); have j0 := (fun o => (n6 o).frozen 0); have j1 := (fun o => (n6 o).frozen 1); have j2 := (fun o => (n6 o).frozen 2); have j3 := (fun o => (n6 o).frozen 3)))
          all_goals
            have n8 := Blk.new w6 40 #[.int .i64 op, .int .i64 N, .string nm, .slice B l k2, .int .i64 o3, .int .i64 N3, .string nm3, .slice B3 l3 k3]
            have k8 := (kk.alloc (.cells #[.int .i64 op, .int .i64 N, .string nm, .slice B l k2, .int .i64 o3, .int .i64 N3, .string nm3, .slice B3 l3 k3] 40))
            have KP := Kept.put4 (w6.alloc (.cells #[.int .i64 op, .int .i64 N, .string nm, .slice B l k2, .int .i64 o3, .int .i64 N3, .string nm3, .slice B3 l3 k3] 40)) r7 (.int .i64 op2) (.int .i64 0) (.string ⟨#[]⟩) (.slice (some ⟨w6.heap.size, 0, none⟩) 2 2)
            have BP9 := (n6 (.cells #[.int .i64 op, .int .i64 N, .string nm, .slice B l k2, .int .i64 o3, .int .i64 N3, .string nm3, .slice B3 l3 k3] 40)).put4 (.int .i64 op2) (.int .i64 0) (.string ⟨#[]⟩) (.slice (some ⟨w6.heap.size, 0, none⟩) 2 2)
            have h7w := n60.lt
            have hb8' := n8.kept KP (by omega)
            have K6 : Kept (fun z => z = r7) w6 _ := ((Kept.refl (fun z => z = r7) w6).alloc _).then_ KP (fun _ _ e => e)
            clear n6 y0 y1 y2 y3 j0 j1 j2 j3 i0 i1 i2 i3 e0 e1 e2 e3 KP
            generalize ((((w6.alloc (.cells #[.int .i64 op, .int .i64 N, .string nm, .slice B l k2, .int .i64 o3, .int .i64 N3, .string nm3, .slice B3 l3 k3] 40)).setCell ⟨r7, 0, none⟩ (.int .i64 op2)).setCell ⟨r7, 1, none⟩ (.int .i64 0)).setCell ⟨r7, 2, none⟩ (.string ⟨#[]⟩)).setCell ⟨r7, 3, none⟩ (.slice (some ⟨w6.heap.size, 0, none⟩) 2 2) = W9 at *
            have z6 := kk.size
            have hb8 : Blk W9 w6.heap.size 40 (List.toArray ([.int .i64 op, .int .i64 N, .string nm, .slice B l k2] ++ [.int .i64 o3, .int .i64 N3, .string nm3, .slice B3 l3 k3])) := hb8'
            obtain ⟨i6, er6, hi6, hb6, hq6⟩ := PcAt.of_ex h6
            have hb69 := hb6.kept K6 hgr7
            have K59 : Kept (fun z => z = g ∨ z = r7) W5 W9 := (kk.mono (T := fun z => z = g ∨ z = r7) (fun _ _ e => .inl e)).then_ K6 (fun z _ e => .inr e)
            have KR9 : Kept (fun z => z = g ∨ z = r7) W4 W9 := (KR.out.then_ K5.out (fun _ _ e => .inl e)).then_ K59 (fun _ _ e => e)
            have hx9 : TE (fun z => W0.heap.size ≤ z ∧ z ≠ r7) W9 x [.int .i64 op, .int .i64 N, .string nm, .slice B l k2] := HX.out.kept_lt ((K5.out.mono (T := fun z => z = g ∨ z = r7) (fun _ _ e => .inl e)).then_ K59 (fun _ _ e => e)) (fun z _ hz e => e.elim (fun e => by omega) (fun e => hz.2 e))
            have hw5 : W5.drew.heap.size = W5.heap.size := rfl
            have hq9 : PcAt (fun z => W0.heap.size ≤ z ∧ z ≠ r7) ts i6 er6 [.int .i64 op2, .int .i64 0, .string ⟨#[]⟩, .slice (some ⟨w6.heap.size, 0, none⟩) 2 2] W9 (pn.wrap (.bin op2 x)) :=
              hq6.wrap (.bin op2 x) (fun y hy => ⟨w6.heap.size, _, _, rfl, ⟨by omega, by omega⟩, hb8, hx9, (hy.kept_lt K6 (fun z _ hz e => by omega)).mono (fun z _ hz => ⟨by omega, by omega⟩)⟩)
            have HLT := Lib.hid (PcAt.less EAT.out HPN.out hq6 hi'.out)
            have HQ9 := Lib.hid hq9
            have HB9 := Lib.hid hb69
            have HI6 := Lib.hid hi6
            have H9 := Lib.hid BP9
            have HK9 := Lib.hid KR9
            clear hq9 hb69 hi6 BP9 KR9 hx9 K59 hq6 hb6 h6 hb8 n8 k8 kk n60
            by_cases h2 : lvn = 2
            · have h2' : ((lvn : Int) == 2) = true := by simp [h2]
              have HE : Hid (p = pn.wrap (.bin op2 x)) := by have := GS.out; rw [if_pos h2] at this; exact this
              clear h2
              go_wp2_with fail
              go_meet
              case rel => exact ⟨_, _, _, _, _, _, H9, HE.out ▸ HQ9.out.ex (fun z hz => hz.1) HI6.out HB9.out, HK9⟩
            · have h2' : ((lvn : Int) == 2) = false := by simp; omega
              have HE : Hid (goes lvn next (pn.wrap (.bin op2 x)) = p) := by have := GS.out; rw [if_neg h2] at this; exact this.symm
              clear h2
              go_wp2_with fail
              go_roundg (msr ts i6 er6)
              case rel => exact ⟨_, _, _, _, _, _, i6, er6, _, rfl, HI6, H9, HB9, HQ9, HE, HK9⟩
              case measure => rw [hgk.out]; exact HLT.out
      · have he' : (er' == 0) = false := by simp [he]
        have bp := BP.out
        unfold parCells at bp
        have c8 : wr.cell? ⟨g, 8, none⟩ = some (.int .i64 er') := bp.cell 8
        have HE : Hid (p = pc) := GO.out.symm.trans (Q.out.bad_ he lvn next)
        clear bp
        go_wp2_with fail
        go_meet
        case rel => exact ⟨op, N, nm, B, l, k2, B7, HE.out ▸ Q.out.ex (fun z hz => hz.1) hi'.out BP.out, KR⟩
  case rest =>
    obtain ⟨op, N, nm, B, l, k, B7, H9, KR⟩ := hcut
    obtain ⟨wr, rfl⟩ : ∃ x, x = wc := ⟨_, rfl⟩
    have x7 := X4.out.kept KR.out (by omega)
    have b7 := B7.out
    have y0 : wr.cell? ⟨r7, 0, none⟩ = some (.int .i64 op) := b7.cell 0
    have y1 : wr.cell? ⟨r7, 1, none⟩ = some (.int .i64 N) := b7.cell 1
    have y2 : wr.cell? ⟨r7, 2, none⟩ = some (.string nm) := b7.cell 2
    have y3 : wr.cell? ⟨r7, 3, none⟩ = some (.slice B l k) := b7.cell 3
    have s0 : wr.cell? ⟨w.heap.size, 0, none⟩ = some (.int .i64 0) := x7.cell 0
    have t0 := x7.frozen 0
    have s1 : wr.cell? ⟨w.heap.size, 1, none⟩ = some (.int .i64 0) := x7.cell 1
    have t1 := x7.frozen 1
    have s2 : wr.cell? ⟨w.heap.size, 2, none⟩ = some (.string ⟨#[]⟩) := x7.cell 2
    have t2 := x7.frozen 2
    have s3 : wr.cell? ⟨w.heap.size, 3, none⟩ = some (.slice none 0 0) := x7.cell 3
    have t3 := x7.frozen 3
    go_wp2_with fail
    clear s0 s1 s2 s3
    have X9 := (x7).put4 (.int .i64 op) (.int .i64 N) (.string nm) (.slice B l k)
    have K9 := Kept.put4 wr w.heap.size (.int .i64 op) (.int .i64 N) (.string nm) (.slice B l k)
    generalize (((wr.setCell ⟨w.heap.size, 0, none⟩ (.int .i64 op)).setCell ⟨w.heap.size, 1, none⟩ (.int .i64 N)).setCell ⟨w.heap.size, 2, none⟩ (.string nm)).setCell ⟨w.heap.size, 3, none⟩ (.slice B l k) = W9 at *
    have s0 : W9.cell? ⟨w.heap.size, 0, none⟩ = some (.int .i64 op) := X9.cell 0
    have s1 : W9.cell? ⟨w.heap.size, 1, none⟩ = some (.int .i64 N) := X9.cell 1
    have s2 : W9.cell? ⟨w.heap.size, 2, none⟩ = some (.string nm) := X9.cell 2
    have s3 : W9.cell? ⟨w.heap.size, 3, none⟩ = some (.slice B l k) := X9.cell 3
    have KK : Kept (fun z => z = g) w W9 := ((K0.out.then_ K4.out (fun _ _ e => e)).then_ KR.out (fun z hz e => by omega)).then_ K9 (fun z hz e => by omega)
    refine bodyPost_ret (v := .agg #[.int .i64 op, .int .i64 N, .string nm, .slice B l k]) (by simp [results, Tryz.results77, go_sem, s0, s1, s2, s3]) rfl ⟨_, _, _, _, _, _, rfl, KK, ?_⟩
    exact (H9.out.kept_lt K9 (by omega) (fun z _ hz e => by omega)).base_le (by omega)
end Go.Proofs.YtdgekckedchjbaaGreatDoor
namespace Go.Proofs.YtdgekckedchjbaaGreatDoor
open Go.RowKit

theorem lookup_some_mem {s : List UInt8} {v : Int} : ∀ {l : List (List UInt8 × Int)}, l.lookup s = some v → ∃ p ∈ l, p.1 = s
  | [], h => by simp at h
  | p :: l, h => by
    by_cases hp : s = p.1
    · exact ⟨p, List.mem_cons_self .., hp.symm⟩
    · rw [List.lookup, show (s == p.1) = false from by simp [hp]] at h
      obtain ⟨q, hq, e⟩ := lookup_some_mem h
      exact ⟨q, List.mem_cons_of_mem _ hq, e⟩
theorem wpList_dict_add {P : Program} {w : World} {ops : Array Oper} {rest : List Oper} {o : Oper} {a : Act} {Q : Exit → Act → World → Prop} (hgd : Region.wanted o (yielded ops a.tmps) = true) (m x y : Operand) {t k e : TypeId} (r : Nat) (l : List (List UInt8 × Int)) (s : List UInt8) (v : Int)
    (ho : o.op = .insert t m x y) (hd : o.dst = none) (ht : P.underlying t = some (.map k e)) (hk : P.underlying k = some .string) (hm : DictIs w r l) (em : a.eval m = .map (some r)) (ex : a.eval x = .string (str s)) (ey : a.eval y = .int .i64 v) (hs : s ∉ l.map Prod.fst)
    (h : ∀ w', DictIs w' r (l ++ [(s, v)]) → Kept (fun z => z = r) w w' → wpList P ops Q rest a w') : wpList P ops Q (o :: rest) a w := by
  obtain ⟨hn, es, c, hb, hl⟩ := hm
  have hf : Instr.findNow .string (.string (str s)) es.toList 0 = some none := by
    rcases DictIs.find hn hl s with ⟨_, h2⟩ | ⟨v2, _, h1, _⟩
    · exact h2
    · exfalso
      refine hs ?_
      have : ∃ p ∈ l, p.1 = s := lookup_some_mem h1
      obtain ⟨p, hp, rfl⟩ := this
      exact List.mem_map.2 ⟨p, hp, rfl⟩
  refine BigFrame.wpList_want hgd fun K hK => ?_
  have hr : (Instr.mapUpdate t (.map (some r)) (.string (str s)) (.int .i64 v)).run P w = .ok () { w with heap := w.heap.setIfInBounds r (.map (es.push { key := .string (str s), val := .int .i64 v, born := c }) (c + 1)) } := by
    unfold Instr.mapUpdate
    simp only [run_underlying ht, Sem.run_bind, Result.andThen_ok, Go.MapKept.run_getObj_map hb, Go.MapKept.run_checkKey (P := P) (w := w) hk (k := .string (str s)) trivial, Go.MapKept.run_findKey hk hf, Go.MapKept.run_setObj_map _ hb]
  have hh := Go.MapKept.heap_set (o' := .map (es.push { key := .string (str s), val := .int .i64 v, born := c }) (c + 1)) hb
  have hw := h { w with heap := w.heap.setIfInBounds r (.map (es.push { key := .string (str s), val := .int .i64 v, born := c }) (c + 1)) }
    ⟨by
      rw [List.map_append, List.nodup_append]
      exact ⟨hn, by simp, fun a ha b hb e => hs (by simp at hb; rw [← hb, ← e]; exact ha)⟩, _, _, hh.1, by simp [hl]⟩
    ⟨rfl, rfl, rfl, by simp, fun z _ hz => hh.2 z hz⟩
  unfold Oper.wp
  simp only [execOp, ho, em, ex, ey, hr, Sem.run_bind, Result.andThen_ok, Sem.run_pure, Oper.upon, hd]
  exact hK _ _ hw

theorem run_makeMap_none {P : Program} (t : TypeId) (w : World) : (Instr.makeMap t none).run P w = .ok (.map (some w.heap.size)) (w.alloc (.map #[] 0)) := by
  simp [Instr.makeMap]
def JoinsTo (w : World) (e : Ending) (w' : World) : Prop := ∃ m : Nat → Nat, e = .returned (.agg #[.map (some (m 0)), .map (some (m 1)), .map (some (m 2)), .map (some (m 3)), .map (some (m 4))]) ∧ Below w.heap.size w w' ∧ ∀ k, k < 5 → DictIs w' (m k) (lvlT k) ∧ w.heap.size ≤ m k
set_option maxHeartbeats 4000000 in
set_option maxRecDepth 100000 in
theorem joins_any (w : World) : Calls Tryz.prog 52 #[] w (JoinsTo w) := by
  have f0 : Below w.heap.size w (w.alloc (.cells #[.map none, .map none, .map none, .map none, .map none] 116)) := (Below.refl _ w).al _
  have x0 := Blk.new w 116 #[.map none, .map none, .map none, .map none, .map none]
  have F0 := Lib.hid f0
  have X0 := Lib.hid x0
  have z0 := f0.size
  have l0 := x0.lt
  clear f0 x0
  have hmk := fun W => run_makeMap_none (P := Tryz.prog) 115 W
  go_enter Tryz.func52, Tryz.ntmps52
  go_upto_region 1 with fail
  generalize w.alloc (.cells #[.map none, .map none, .map none, .map none, .map none] 116) = W0 at *
  go_wp2_with (first
    | ((with_reducible show wpList _ _ _ (⟨none, Op.insert _ (.tmp 1) _ _, _, _, _, _⟩ :: _) _ _); refine wpList_dict_add (by rfl) _ _ _ W0.heap.size [] [111, 114] 17 rfl rfl Tryz.underlying115 Tryz.underlying9 (DictIs.new W0) rfl rfl rfl (by decide) ?_; intro W0_0 D0_1 k0_0; have K1 := (((Kept.refl (fun z => z = W0.heap.size) W0).alloc (.map #[] 0)).then_ k0_0 (fun _ _ e => e)); have X1 := Lib.hid (X0.out.kept K1 (by omega)); have F1 := Lib.hid (F0.out.trans (K1.to_below (by omega) (fun q hq e => by omega))); have z1 := K1.size; have l1 := D0_1.lt; have E0_1 := Lib.hid D0_1)
    | ((with_reducible show wpList _ _ _ (⟨none, Op.insert _ (.tmp 3) _ _, _, _, _, _⟩ :: _) _ _); refine wpList_dict_add (by rfl) _ _ _ W0_0.heap.size [] [97, 110, 100] 16 rfl rfl Tryz.underlying115 Tryz.underlying9 (DictIs.new W0_0) rfl rfl rfl (by decide) ?_; intro W1_0 D1_1 k1_0; have K2 := (((Kept.refl (fun z => z = W0_0.heap.size) W0_0).alloc (.map #[] 0)).then_ k1_0 (fun _ _ e => e)); have X2 := Lib.hid (X1.out.kept K2 (by omega)); have F2 := Lib.hid (F1.out.trans (K2.to_below (by omega) (fun q hq e => by omega))); have z2 := K2.size; have l2 := D1_1.lt; have E0_2 := Lib.hid (E0_1.out.kept K2 (by omega)); have E1_2 := Lib.hid D1_1)
    | ((with_reducible show wpList _ _ _ (⟨none, Op.insert _ (.tmp 5) _ _, _, _, _, _⟩ :: _) _ _); refine wpList_dict_add (by rfl) _ _ _ W1_0.heap.size [] [61] 10 rfl rfl Tryz.underlying115 Tryz.underlying9 (DictIs.new W1_0) rfl rfl rfl (by decide) ?_; intro W2_0 D2_1 k2_0)
    | ((with_reducible show wpList _ _ _ (⟨none, Op.insert _ (.tmp 5) _ _, _, _, _, _⟩ :: _) _ _); refine wpList_dict_add (by rfl) _ _ _ W1_0.heap.size [([61], 10)] [33, 61] 11 rfl rfl Tryz.underlying115 Tryz.underlying9 D2_1 rfl rfl rfl (by decide) ?_; intro W2_1 D2_2 k2_1)
    | ((with_reducible show wpList _ _ _ (⟨none, Op.insert _ (.tmp 5) _ _, _, _, _, _⟩ :: _) _ _); refine wpList_dict_add (by rfl) _ _ _ W1_0.heap.size [([61], 10), ([33, 61], 11)] [60] 12 rfl rfl Tryz.underlying115 Tryz.underlying9 D2_2 rfl rfl rfl (by decide) ?_; intro W2_2 D2_3 k2_2)
    | ((with_reducible show wpList _ _ _ (⟨none, Op.insert _ (.tmp 5) _ _, _, _, _, _⟩ :: _) _ _); refine wpList_dict_add (by rfl) _ _ _ W1_0.heap.size [([61], 10), ([33, 61], 11), ([60], 12)] [60, 61] 13 rfl rfl Tryz.underlying115 Tryz.underlying9 D2_3 rfl rfl rfl (by decide) ?_; intro W2_3 D2_4 k2_3)
    | ((with_reducible show wpList _ _ _ (⟨none, Op.insert _ (.tmp 5) _ _, _, _, _, _⟩ :: _) _ _); refine wpList_dict_add (by rfl) _ _ _ W1_0.heap.size [([61], 10), ([33, 61], 11), ([60], 12), ([60, 61], 13)] [62] 14 rfl rfl Tryz.underlying115 Tryz.underlying9 D2_4 rfl rfl rfl (by decide) ?_; intro W2_4 D2_5 k2_4)
    | ((with_reducible show wpList _ _ _ (⟨none, Op.insert _ (.tmp 5) _ _, _, _, _, _⟩ :: _) _ _); refine wpList_dict_add (by rfl) _ _ _ W1_0.heap.size [([61], 10), ([33, 61], 11), ([60], 12), ([60, 61], 13), ([62], 14)] [62, 61] 15 rfl rfl Tryz.underlying115 Tryz.underlying9 D2_5 rfl rfl rfl (by decide) ?_; intro W2_5 D2_6 k2_5; have K3 := ((((((((Kept.refl (fun z => z = W1_0.heap.size) W1_0).alloc (.map #[] 0)).then_ k2_0 (fun _ _ e => e)).then_ k2_1 (fun _ _ e => e)).then_ k2_2 (fun _ _ e => e)).then_ k2_3 (fun _ _ e => e)).then_ k2_4 (fun _ _ e => e)).then_ k2_5 (fun _ _ e => e)); have X3 := Lib.hid (X2.out.kept K3 (by omega)); have F3 := Lib.hid (F2.out.trans (K3.to_below (by omega) (fun q hq e => by omega))); have z3 := K3.size; have l3 := D2_6.lt; have E0_3 := Lib.hid (E0_2.out.kept K3 (by omega)); have E1_3 := Lib.hid (E1_2.out.kept K3 (by omega)); have E2_3 := Lib.hid D2_6)
    | ((with_reducible show wpList _ _ _ (⟨none, Op.insert _ (.tmp 7) _ _, _, _, _, _⟩ :: _) _ _); refine wpList_dict_add (by rfl) _ _ _ W2_5.heap.size [] [43] 8 rfl rfl Tryz.underlying115 Tryz.underlying9 (DictIs.new W2_5) rfl rfl rfl (by decide) ?_; intro W3_0 D3_1 k3_0)
    | ((with_reducible show wpList _ _ _ (⟨none, Op.insert _ (.tmp 7) _ _, _, _, _, _⟩ :: _) _ _); refine wpList_dict_add (by rfl) _ _ _ W2_5.heap.size [([43], 8)] [45] 9 rfl rfl Tryz.underlying115 Tryz.underlying9 D3_1 rfl rfl rfl (by decide) ?_; intro W3_1 D3_2 k3_1; have K4 := ((((Kept.refl (fun z => z = W2_5.heap.size) W2_5).alloc (.map #[] 0)).then_ k3_0 (fun _ _ e => e)).then_ k3_1 (fun _ _ e => e)); have X4 := Lib.hid (X3.out.kept K4 (by omega)); have F4 := Lib.hid (F3.out.trans (K4.to_below (by omega) (fun q hq e => by omega))); have z4 := K4.size; have l4 := D3_2.lt; have E0_4 := Lib.hid (E0_3.out.kept K4 (by omega)); have E1_4 := Lib.hid (E1_3.out.kept K4 (by omega)); have E2_4 := Lib.hid (E2_3.out.kept K4 (by omega)); have E3_4 := Lib.hid D3_2)
    | ((with_reducible show wpList _ _ _ (⟨none, Op.insert _ (.tmp 9) _ _, _, _, _, _⟩ :: _) _ _); refine wpList_dict_add (by rfl) _ _ _ W3_1.heap.size [] [42] 5 rfl rfl Tryz.underlying115 Tryz.underlying9 (DictIs.new W3_1) rfl rfl rfl (by decide) ?_; intro W4_0 D4_1 k4_0)
    | ((with_reducible show wpList _ _ _ (⟨none, Op.insert _ (.tmp 9) _ _, _, _, _, _⟩ :: _) _ _); refine wpList_dict_add (by rfl) _ _ _ W3_1.heap.size [([42], 5)] [47] 6 rfl rfl Tryz.underlying115 Tryz.underlying9 D4_1 rfl rfl rfl (by decide) ?_; intro W4_1 D4_2 k4_1)
    | ((with_reducible show wpList _ _ _ (⟨none, Op.insert _ (.tmp 9) _ _, _, _, _, _⟩ :: _) _ _); refine wpList_dict_add (by rfl) _ _ _ W3_1.heap.size [([42], 5), ([47], 6)] [37] 7 rfl rfl Tryz.underlying115 Tryz.underlying9 D4_2 rfl rfl rfl (by decide) ?_; intro W4_2 D4_3 k4_2; have K5 := (((((Kept.refl (fun z => z = W3_1.heap.size) W3_1).alloc (.map #[] 0)).then_ k4_0 (fun _ _ e => e)).then_ k4_1 (fun _ _ e => e)).then_ k4_2 (fun _ _ e => e)); have X5 := Lib.hid (X4.out.kept K5 (by omega)); have F5 := Lib.hid (F4.out.trans (K5.to_below (by omega) (fun q hq e => by omega))); have z5 := K5.size; have l5 := D4_3.lt; have E0_5 := Lib.hid (E0_4.out.kept K5 (by omega)); have E1_5 := Lib.hid (E1_4.out.kept K5 (by omega)); have E2_5 := Lib.hid (E2_4.out.kept K5 (by omega)); have E3_5 := Lib.hid (E3_4.out.kept K5 (by omega)); have E4_5 := Lib.hid D4_3; have s0 : W4_2.cell? ⟨w.heap.size, 0, none⟩ = some (.map none) := X5.out.cell 0; have t0 := X5.out.frozen 0; have s1 : W4_2.cell? ⟨w.heap.size, 1, none⟩ = some (.map none) := X5.out.cell 1; have t1 := X5.out.frozen 1; have s2 : W4_2.cell? ⟨w.heap.size, 2, none⟩ = some (.map none) := X5.out.cell 2; have t2 := X5.out.frozen 2; have s3 : W4_2.cell? ⟨w.heap.size, 3, none⟩ = some (.map none) := X5.out.cell 3; have t3 := X5.out.frozen 3; have s4 : W4_2.cell? ⟨w.heap.size, 4, none⟩ = some (.map none) := X5.out.cell 4; have t4 := X5.out.frozen 4))
  have x5 := X5.out
  clear hmk
  clear s0 s1 s2 s3 s4
  have X9 := x5.put5 (.map (some W0.heap.size)) (.map (some W0_0.heap.size)) (.map (some W1_0.heap.size)) (.map (some W2_5.heap.size)) (.map (some W3_1.heap.size))
  have K9 := Kept.put5 W4_2 w.heap.size (.map (some W0.heap.size)) (.map (some W0_0.heap.size)) (.map (some W1_0.heap.size)) (.map (some W2_5.heap.size)) (.map (some W3_1.heap.size))
  generalize ((((W4_2.setCell ⟨w.heap.size, 0, none⟩ (.map (some W0.heap.size))).setCell ⟨w.heap.size, 1, none⟩ (.map (some W0_0.heap.size))).setCell ⟨w.heap.size, 2, none⟩ (.map (some W1_0.heap.size))).setCell ⟨w.heap.size, 3, none⟩ (.map (some W2_5.heap.size))).setCell ⟨w.heap.size, 4, none⟩ (.map (some W3_1.heap.size)) = W9 at *
  have s0 : W9.cell? ⟨w.heap.size, 0, none⟩ = some (.map (some W0.heap.size)) := X9.cell 0
  have s1 : W9.cell? ⟨w.heap.size, 1, none⟩ = some (.map (some W0_0.heap.size)) := X9.cell 1
  have s2 : W9.cell? ⟨w.heap.size, 2, none⟩ = some (.map (some W1_0.heap.size)) := X9.cell 2
  have s3 : W9.cell? ⟨w.heap.size, 3, none⟩ = some (.map (some W2_5.heap.size)) := X9.cell 3
  have s4 : W9.cell? ⟨w.heap.size, 4, none⟩ = some (.map (some W3_1.heap.size)) := X9.cell 4
  refine bodyPost_ret (v := .agg #[.map (some W0.heap.size), .map (some W0_0.heap.size), .map (some W1_0.heap.size), .map (some W2_5.heap.size), .map (some W3_1.heap.size)]) (by simp [results, Tryz.results52, go_sem, s0, s1, s2, s3, s4]) rfl ⟨fun k => if k = 0 then W0.heap.size else if k = 1 then W0_0.heap.size else if k = 2 then W1_0.heap.size else if k = 3 then W2_5.heap.size else W3_1.heap.size, rfl, F5.out.trans (K9.to_below (by omega) (fun q hq e => by omega)), ?_⟩
  intro k hk
  match k, hk with
  | 0, _ => exact ⟨E0_5.out.kept K9 (by first | omega | (simp; omega)), by first | omega | (simp; omega)⟩
  | 1, _ => exact ⟨E1_5.out.kept K9 (by first | omega | (simp; omega)), by first | omega | (simp; omega)⟩
  | 2, _ => exact ⟨E2_5.out.kept K9 (by first | omega | (simp; omega)), by first | omega | (simp; omega)⟩
  | 3, _ => exact ⟨E3_5.out.kept K9 (by first | omega | (simp; omega)), by first | omega | (simp; omega)⟩
  | 4, _ => exact ⟨E4_5.out.kept K9 (by first | omega | (simp; omega)), by first | omega | (simp; omega)⟩
  | k + 5, h => exact absurd h (by omega)
end Go.Proofs.YtdgekckedchjbaaGreatDoor
namespace Go.Proofs.YtdgekckedchjbaaGreatDoor
open Go.RowKit

section
variable (g c : Nat) (A : Option Addr) (m : Nat → Nat) (ts : List Tk) (dp : Int)
theorem join_k (d : Nat) (PC : PlainC g c A m ts dp d) : ∀ k, k ≤ 5 → JoinC g c A m ts dp d k
  | 0, _ => join_zero g c A m ts dp d PC
  | k + 1, h => join_more g c A m ts dp d k (by omega) (join_k d PC k (by omega))
theorem both_any : ∀ d, PlainC g c A m ts dp d ∧ JoinC g c A m ts dp d 5
  | 0 =>
    have h := plain_any g c A m ts dp 0 (fun q h => absurd h (by omega))
    ⟨h, join_k g c A m ts dp 0 h 5 (Nat.le_refl _)⟩
  | d + 1 =>
    have h := plain_any g c A m ts dp (d + 1) (fun q h => by
      obtain rfl : d = q := by omega
      exact both_any d)
    ⟨h, join_k g c A m ts dp (d + 1) h 5 (Nat.le_refl _)⟩
end
set_option maxHeartbeats 1000000 in
set_option maxRecDepth 100000 in
theorem expression_any (g c : Nat) (A : Option Addr) (m : Nat → Nat) (ts : List Tk) (i : Nat) (dp : Int) (w : World) (h : Par w g A c m ts i dp 0) :
    Calls Tryz.prog 40 #[.pointer (some ⟨g, 0, none⟩)] w (ExTo w g c A m ts dp (joinL (plainD 16) 5 (ts.drop i))) := by
  have f0 : Below w.heap.size w (w.alloc (.cells #[.int .i64 0, .int .i64 0, .string ⟨#[]⟩, .slice none 0 0] 40)) := (Below.refl _ w).al _
  have x0 := Blk.new w 40 #[.int .i64 0, .int .i64 0, .string ⟨#[]⟩, .slice none 0 0]
  have JC := Lib.hid ((both_any g c A m ts dp 16).2 0 0 i _ (by omega) (by omega) (by omega) (h.below f0))
  have hgl := h.blk.lt
  have F0 := Lib.hid f0
  have X0 := Lib.hid x0
  have z0 : (w.alloc (.cells #[.int .i64 0, .int .i64 0, .string ⟨#[]⟩, .slice none 0 0] 40)).heap.size = w.heap.size + 1 := by simp
  clear h f0 x0
  generalize joinL (plainD 16) 5 (ts.drop i) = p at *
  go_enter Tryz.func40, Tryz.ntmps40
  go_upto_region 1 with fail
  generalize w.alloc (.cells #[.int .i64 0, .int .i64 0, .string ⟨#[]⟩, .slice none 0 0] 40) = W0 at *
  go_wp2_with fail
  refine JC.out.mono ?_
  rintro e w4 ⟨op, N, nm, B, l, k, rfl, k4, h4⟩
  have x4 := X0.out.kept k4 (by omega)
  have K4 := Lib.hid k4
  have H4 := Lib.hid h4
  clear k4 h4 JC
  have s0 : w4.cell? ⟨w.heap.size, 0, none⟩ = some (.int .i64 0) := x4.cell 0
  have s1 : w4.cell? ⟨w.heap.size, 1, none⟩ = some (.int .i64 0) := x4.cell 1
  have s2 : w4.cell? ⟨w.heap.size, 2, none⟩ = some (.string ⟨#[]⟩) := x4.cell 2
  have s3 : w4.cell? ⟨w.heap.size, 3, none⟩ = some (.slice none 0 0) := x4.cell 3
  have t0 := x4.frozen 0
  have t1 := x4.frozen 1
  have t2 := x4.frozen 2
  have t3 := x4.frozen 3
  go_wp2_with fail
  clear s0 s1 s2 s3
  have X9 := x4.put4 (.int .i64 op) (.int .i64 N) (.string nm) (.slice B l k)
  have K9 := Kept.put4 w4 w.heap.size (.int .i64 op) (.int .i64 N) (.string nm) (.slice B l k)
  generalize (((w4.setCell ⟨w.heap.size, 0, none⟩ (.int .i64 op)).setCell ⟨w.heap.size, 1, none⟩ (.int .i64 N)).setCell ⟨w.heap.size, 2, none⟩ (.string nm)).setCell ⟨w.heap.size, 3, none⟩ (.slice B l k) = W9 at *
  have s0 : W9.cell? ⟨w.heap.size, 0, none⟩ = some (.int .i64 op) := X9.cell 0
  have s1 : W9.cell? ⟨w.heap.size, 1, none⟩ = some (.int .i64 N) := X9.cell 1
  have s2 : W9.cell? ⟨w.heap.size, 2, none⟩ = some (.string nm) := X9.cell 2
  have s3 : W9.cell? ⟨w.heap.size, 3, none⟩ = some (.slice B l k) := X9.cell 3
  have KK : Kept (fun z => z = g) w W9 := ((Kept.of_below (S := fun z => z = g) F0.out).then_ K4.out (fun _ _ e => e)).then_ K9 (fun z hz e => by omega)
  refine bodyPost_ret (v := .agg #[.int .i64 op, .int .i64 N, .string nm, .slice B l k]) (by simp [results, Tryz.results40, go_sem, s0, s1, s2, s3]) rfl ⟨_, _, _, _, _, _, rfl, KK, ?_⟩
  exact (H4.out.kept_lt K9 (by omega) (fun z _ hz e => by omega)).base_le (by omega)

/-- The closure that keeps an expression in block r. -/
def CloTo (w : World) (g c : Nat) (A : Option Addr) (m : Nat → Nat) (ts : List Tk) (dp : Int) (r : Nat) (p : PR) (e : Ending) (w' : World) : Prop :=
  ∃ (op N : Int) (nm : ByteArray) (B : Option Addr) (l k : Nat), e = .returned (.tuple #[]) ∧ Kept (fun z => z = g ∨ z = r) w w' ∧ Blk w' r 40 #[.int .i64 op, .int .i64 N, .string nm, .slice B l k] ∧
    ExAt w.heap.size g c A m ts dp [.int .i64 op, .int .i64 N, .string nm, .slice B l k] w' p
set_option maxHeartbeats 1000000 in
set_option maxRecDepth 100000 in
theorem clo_any (g c : Nat) (A : Option Addr) (m : Nat → Nat) (ts : List Tk) (i : Nat) (dp : Int) (r : Nat) (a b d e : Value) (w : World) (h : Par w g A c m ts i dp 0) (hb : Blk w r 40 #[a, b, d, e]) (hgr : g ≠ r) :
    Calls Tryz.prog 39 #[.pointer (some ⟨g, 0, none⟩), .pointer (some ⟨r, 0, none⟩)] w (CloTo w g c A m ts dp r (joinL (plainD 16) 5 (ts.drop i))) := by
  have JC := Lib.hid (expression_any g c A m ts i dp w h)
  have HB := Lib.hid hb
  have hgl := h.blk.lt
  have hrl := hb.lt
  clear h hb
  generalize joinL (plainD 16) 5 (ts.drop i) = p at *
  go_enter Tryz.func39, Tryz.ntmps39
  go_wp2_with fail
  refine JC.out.mono ?_
  rintro e' w4 ⟨op, N, nm, B, l, k, rfl, k4, h4⟩
  have x4 := HB.out.kept k4 (by omega)
  have K4 := Lib.hid k4
  have H4 := Lib.hid h4
  clear k4 h4 JC
  have s0 : w4.cell? ⟨r, 0, none⟩ = some a := x4.cell 0
  have s1 : w4.cell? ⟨r, 1, none⟩ = some b := x4.cell 1
  have s2 : w4.cell? ⟨r, 2, none⟩ = some d := x4.cell 2
  have s3 : w4.cell? ⟨r, 3, none⟩ = some e := x4.cell 3
  have t0 := x4.frozen 0
  have t1 := x4.frozen 1
  have t2 := x4.frozen 2
  have t3 := x4.frozen 3
  go_wp2_with fail
  clear s0 s1 s2 s3
  have X9 := x4.put4 (.int .i64 op) (.int .i64 N) (.string nm) (.slice B l k)
  have K9 := Kept.put4 w4 r (.int .i64 op) (.int .i64 N) (.string nm) (.slice B l k)
  generalize (((w4.setCell ⟨r, 0, none⟩ (.int .i64 op)).setCell ⟨r, 1, none⟩ (.int .i64 N)).setCell ⟨r, 2, none⟩ (.string nm)).setCell ⟨r, 3, none⟩ (.slice B l k) = W9 at *
  go_end0
  exact ⟨_, _, _, _, _, _, rfl, (K4.out.mono (T := fun z => z = g ∨ z = r) (fun _ _ e => .inl e)).then_ K9 (fun _ _ e => .inr e), X9, H4.out.kept_lt K9 hgr (fun z _ hz e => by omega)⟩
end Go.Proofs.YtdgekckedchjbaaGreatDoor
namespace Go.Proofs.YtdgekckedchjbaaGreatDoor
open Go.RowKit

/-- Where the parser stands behind a step that gives p. -/
def PsAt {α : Type} (ts : List Tk) (i : Nat) (er : Int) (p : PS α) (Q : α → Prop) : Prop := match p with
  | .ok a r => r = ts.drop i ∧ er = 0 ∧ Q a
  | .bad r e => r = ts.drop i ∧ e = er ∧ er ≠ 0
/-- A step from where the parser stands: with an error nothing is read. -/
def stP {α : Type} (f : List Tk → PS α) (ts : List Tk) (i : Nat) (er : Int) : PS α := if er = 0 then f (ts.drop i) else .bad (ts.drop i) er
theorem PsAt.mono {α : Type} {ts : List Tk} {i : Nat} {er : Int} {p : PS α} {Q Q' : α → Prop} (h : PsAt ts i er p Q) (hq : ∀ a, Q a → Q' a) : PsAt ts i er p Q' := by
  cases p with
  | ok a r => exact ⟨h.1, h.2.1, hq a h.2.2⟩
  | bad r e => exact h
/-- One step behind another. -/
theorem PsAt.then_ {α β : Type} {ts : List Tk} {i j : Nat} {er er' : Int} {p : PS α} {f : List Tk → PS β} {Q : α → Prop} {Q' : β → Prop} (h : PsAt ts i er p Q) (h2 : PsAt ts j er' (stP f ts i er) Q') :
    PsAt ts j er' (p.bind fun a r => (f r).bind fun b r => .ok (a, b) r) (fun ab => Q ab.1 ∧ Q' ab.2) := by
  cases p with
  | ok a r =>
    obtain ⟨rfl, rfl, hq⟩ := h
    unfold stP at h2
    rw [if_pos rfl] at h2
    show PsAt ts j er' ((f (ts.drop i)).bind fun b r => .ok (a, b) r) _
    cases hf : f (ts.drop i) with
    | ok b r =>
      rw [hf] at h2
      exact ⟨h2.1, h2.2.1, hq, h2.2.2⟩
    | bad r e =>
      rw [hf] at h2
      exact h2
  | bad r e =>
    obtain ⟨rfl, rfl, hne⟩ := h
    unfold stP at h2
    rw [if_neg hne] at h2
    exact h2
theorem PsAt.map {α β : Type} {ts : List Tk} {i : Nat} {er : Int} {p : PS α} {Q : α → Prop} {Q' : β → Prop} (k : α → β) (h : PsAt ts i er p Q) (hq : ∀ a, Q a → Q' (k a)) : PsAt ts i er (p.bind fun a r => .ok (k a) r) Q' := by
  cases p with
  | ok a r => exact ⟨h.1, h.2.1, hq a h.2.2⟩
  | bad r e => exact h
theorem PsAt.st {α : Type} {ts : List Tk} {i : Nat} {er : Int} {a : α} {Q : α → Prop} (hq : Q a) : PsAt ts i er (stP (fun r => .ok a r) ts i er) Q := by
  unfold stP
  split
  · rename_i h
    exact ⟨rfl, h, hq⟩
  · rename_i h
    exact ⟨rfl, rfl, h⟩
/-- A step of the parser: what it gives, and where it stands then. -/
def StepTo {α : Type} (w : World) (g c : Nat) (A : Option Addr) (m : Nat → Nat) (ts : List Tk) (dp : Int) (p : PS α) (R : World → α → Value → Prop) (Sh : World → Value → Prop) (e : Ending) (w' : World) : Prop :=
  ∃ v, e = .returned v ∧ Kept (fun z => z = g) w w' ∧ Sh w' v ∧ ∃ (i : Nat) (er : Int), Par w' g A c m ts i dp er ∧ PsAt ts i er p (fun a => R w' a v)
def IsS (_ : World) (s : List UInt8) (v : Value) : Prop := v = .string (str s)
def ShS (_ : World) (v : Value) : Prop := ∃ s : ByteArray, v = .string s
def IsN (_ : World) (n : Int) (v : Value) : Prop := v = .int .i64 n
def ShN (_ : World) (v : Value) : Prop := ∃ n : Int, v = .int .i64 n
end Go.Proofs.YtdgekckedchjbaaGreatDoor
namespace Go.Proofs.YtdgekckedchjbaaGreatDoor
open Go.RowKit

/-- A question about the tokens that come next. -/
def stB (f : List Tk → Bool) (ts : List Tk) (i : Nat) (er : Int) : Bool := (er == 0) && f (ts.drop i)
end Go.Proofs.YtdgekckedchjbaaGreatDoor
namespace Go.Proofs.YtdgekckedchjbaaGreatDoor
open Go.RowKit

end Go.Proofs.YtdgekckedchjbaaGreatDoor
