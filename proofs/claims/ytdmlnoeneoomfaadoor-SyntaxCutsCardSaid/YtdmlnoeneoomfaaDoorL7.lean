
/-
  package lex: the tokens of a text.
-/
import Derived.Test.YtdmlnoeneoomfaaDoorL6
import Derived.Test.YtdmlnoeneoomfaaDoorStep
import Derived.Deep.RegionHeld3
import Derived.Deep.DeepCutAuto
import Derived.Deep.CutBlock
namespace Go.Proofs.YtdmlnoeneoomfaaDoor
open Go.RowKit

/-- A token. -/
structure Tk where
  kind : Int
  text : List UInt8
  n : Int
  line : Int
  col : Int
inductive Res where
  | ok (ts : List Tk)
  | err (line col e : Int)
/-- The tokens of what is left, behind those that were found. -/
def lexF : Nat → List UInt8 → Int → Int → List Tk → Res
  | 0, _, _, _, acc => .ok acc
  | _ + 1, [], line, col, acc => .ok (acc ++ [⟨0, [], 0, line, col⟩])
  | f + 1, c :: r, line, col, acc =>
    if c = 10 then lexF f r (line + 1) 1 acc
    else if c = 32 ∨ c = 9 then lexF f r line (col + 1) acc
    else if c = 35 then lexF f ((c :: r).drop (preN nlB (c :: r))) line (col + preN nlB (c :: r)) acc
    else if (pieceS (c :: r)).err ≠ 0 then .err line col (pieceS (c :: r)).err
    else lexF f ((c :: r).drop (pieceS (c :: r)).text.length) line (col + (pieceS (c :: r)).text.length) (acc ++ [⟨(pieceS (c :: r)).kind, (pieceS (c :: r)).text, (pieceS (c :: r)).n, line, col⟩])
def lexS (l : List UInt8) : Res := lexF (l.length + 1) l 1 1 []
def tkCells (t : Tk) : List Value := [.int .i64 t.kind, .string (str t.text), .int .i64 t.n, .int .i64 t.line, .int .i64 t.col]
def tksCells (ts : List Tk) : List Value := ts.flatMap tkCells
theorem tksCells_snoc (ts : List Tk) (t : Tk) : tksCells (ts ++ [t]) = tksCells ts ++ tkCells t := by simp [tksCells]
theorem tkCells_one (t : Tk) : ∀ u ∈ tkCells t, u.oneCell' = true := by
  intro u hu
  simp only [tkCells, List.mem_cons, List.not_mem_nil, or_false] at hu
  rcases hu with rfl | rfl | rfl | rfl | rfl <;> rfl

/-- A slice of tokens of the call's own. -/
def OT (w : World) (base : Nat) (v : Value) (ts : List Tk) : Prop := w.ownsRow base 87 5 v ts.length (tksCells ts)
theorem OT.nil (w : World) (base : Nat) : OT w base (.slice none 0 0) [] := World.ownsRow_nil w base _ _
theorem OT.below {w w' : World} {base B : Nat} {v : Value} {ts : List Tk} (h : OT w base v ts) (hb : Below B w w') (hB : w.heap.size ≤ B) : OT w' base v ts := by
  refine ⟨h.1, ?_⟩
  rcases h.2 with h2 | ⟨g, cap, cur, hv, hg, hh, r⟩
  · exact .inl h2
  · have hlt : g < w.heap.size := Blk.lt (t := 87) (cs := cur) hh
    exact .inr ⟨g, cap, cur, hv, hg, (hb.block g (by omega)).trans hh, r⟩
theorem OT.below_ {w w' : World} {base : Nat} {v : Value} {ts : List Tk} (h : OT w base v ts) (hb : Below w.heap.size w w') : OT w' base v ts := h.below hb (Nat.le_refl _)
theorem OT.block {w : World} {base : Nat} {v : Value} {ts : List Tk} (h : OT w base v ts) : ∀ k, v.ownBlock = some k → base ≤ k := by
  intro k hk
  rcases h.2 with ⟨rfl, h0⟩ | ⟨g, cap, cur, rfl, hg, hh, _⟩
  · simp [Value.ownBlock] at hk
  · simp only [Value.ownBlock, Option.some.injEq] at hk
    subst hk
    exact hg

theorem OT.lt {w : World} {base : Nat} {v : Value} {ts : List Tk} (h : OT w base v ts) : ∀ k, v.ownBlock = some k → k < w.heap.size := by
  intro k hk
  rcases h.2 with ⟨rfl, h0⟩ | ⟨g, cap, cur, rfl, hg, hh, _⟩
  · simp [Value.ownBlock] at hk
  · simp only [Value.ownBlock, Option.some.injEq] at hk
    subst hk
    exact Blk.lt (t := 87) (cs := cur) hh
theorem OT.kept {S : Nat → Prop} {w w' : World} {base : Nat} {v : Value} {ts : List Tk} (h : OT w base v ts) (hk : Kept S w w') (hs : ∀ k, base ≤ k → ¬ S k) : OT w' base v ts := by
  refine ⟨h.1, ?_⟩
  rcases h.2 with h2 | ⟨g, cap, cur, hv, hg, hh, r⟩
  · exact .inl h2
  · have hlt : g < w.heap.size := Blk.lt (t := 87) (cs := cur) hh
    exact .inr ⟨g, cap, cur, hv, hg, (hk.block g hlt (hs g hg)).trans hh, r⟩
theorem OT.mono {w : World} {base b : Nat} {v : Value} {ts : List Tk} (h : OT w base v ts) (hb : b ≤ base) : OT w b v ts := by
  refine ⟨h.1, ?_⟩
  rcases h.2 with h2 | ⟨g, cap, cur, hv, hg, r⟩
  · exact .inl h2
  · exact .inr ⟨g, cap, cur, hv, by omega, r⟩
theorem far2 {w : World} {g h : Nat} (hne : g ≠ h) (i : Nat) (v0 v1 : Value) : ((w.setCell ⟨h, 0, none⟩ v0).setCell ⟨h, 1, none⟩ v1).cell? ⟨g, i, none⟩ = w.cell? ⟨g, i, none⟩ := by
  have f : ∀ (W : World) (j : Nat) (v : Value), (W.setCell ⟨h, j, none⟩ v).cell? ⟨g, i, none⟩ = W.cell? ⟨g, i, none⟩ := fun W j v => World.cell?_setCell_other W ⟨h, j, none⟩ ⟨g, i, none⟩ v (fun e => hne (by injection e with e1; exact e1.symm))
  rw [f, f]
/-- A token's cells, of a block of their own. -/
theorem tk_reads (W : World) (t : Tk) : Reads (W.alloc (.cells (tkCells t).toArray 87)) (W.heap.size + 1) 5 (some ⟨W.heap.size, 0, none⟩) 1 (tkCells t) := by
  refine ⟨by simp [tkCells], fun _ => ⟨_, rfl, by simp, fun j u hu => ?_⟩⟩
  rw [Addr.add_lit, Nat.zero_add, (Blk.new W 87 (tkCells t).toArray).cell j]
  simpa using hu

/-- What Tokens answers. -/
def TokPost (l : List UInt8) (w : World) (e : Ending) (w' : World) : Prop :=
  match lexS l with
  | .ok ts => ∃ A c, e = .returned (.tuple #[.slice A ts.length c, .agg #[.int .i64 0, .int .i64 0], .int .i64 0]) ∧ OT w' w.heap.size (.slice A ts.length c) ts ∧ Below w.heap.size w w'
  | .err line col er => e = .returned (.tuple #[.slice none 0 0, .agg #[.int .i64 line, .int .i64 col], .int .i64 er]) ∧ Below w.heap.size w w'

theorem lexF_cons {f : Nat} {l : List UInt8} {line col : Int} {acc : List Tk} {c : UInt8} {r : List UInt8} (h : l = c :: r) : lexF (f + 1) l line col acc =
    if c = 10 then lexF f r (line + 1) 1 acc
    else if c = 32 ∨ c = 9 then lexF f r line (col + 1) acc
    else if c = 35 then lexF f (l.drop (preN nlB l)) line (col + preN nlB l) acc
    else if (pieceS l).err ≠ 0 then .err line col (pieceS l).err
    else lexF f (l.drop (pieceS l).text.length) line (col + (pieceS l).text.length) (acc ++ [⟨(pieceS l).kind, (pieceS l).text, (pieceS l).n, line, col⟩]) := by
  subst h
  rfl
theorem preN_pos {p : UInt8 → Bool} {c : UInt8} {r : List UInt8} (h : p c = true) : 1 ≤ preN p (c :: r) := by
  unfold preN
  rw [List.takeWhile_cons_of_pos h]
  simp
theorem pieceS_len {l : List UInt8} (h : (pieceS l).err = 0) (hl : l ≠ []) : 1 ≤ (pieceS l).text.length ∧ (pieceS l).text.length ≤ l.length := by
  obtain ⟨c, r, rfl⟩ := List.exists_cons_of_ne_nil hl
  have hle := preN_le innB (c :: r)
  have hin : letB c = true ∨ digB c = true → 1 ≤ preN innB (c :: r) := fun h => preN_pos (by unfold innB; rcases h with h | h <;> simp [h])
  revert h
  unfold pieceS
  rw [List.headD_cons]
  by_cases hlt : letB c = true
  · have := hin (.inl hlt)
    rw [if_pos hlt]
    by_cases h30 : 30 < preN innB (c :: r)
    · rw [if_pos h30]; intro h; simp [noPc] at h
    · rw [if_neg h30]
      by_cases hw : (c :: r).take (preN innB (c :: r)) ∈ wordsL
      · rw [if_pos hw]; intro _; simp only [List.length_take]; omega
      · rw [if_neg hw]; intro _; simp only [List.length_take]; omega
  · rw [if_neg hlt]
    by_cases hdg : digB c = true
    · have := hin (.inr hdg)
      rw [if_pos hdg]
      by_cases hne : (numS ((c :: r).take (preN innB (c :: r)))).2 ≠ 0
      · rw [if_pos hne]; intro h; exact absurd h hne
      · rw [if_neg hne]; intro _; simp only [List.length_take]; omega
    · rw [if_neg hdg]
      by_cases h2 : 2 ≤ (c :: r).length ∧ (c :: r).take 2 ∈ marksL
      · rw [if_pos h2]; intro _; simp only [List.length_take]; omega
      · rw [if_neg h2]
        by_cases h1 : (c :: r).take 1 ∈ marksL
        · rw [if_pos h1]; intro _; simp
        · rw [if_neg h1]; intro h; simp [noPc] at h
theorem info_tok : (Tryd.prog.info? 87).map (fun i => (i.zero, i.size, i.bytes)) = some (some (.agg #[.int .i64 0, .string ByteArray.empty, .int .i64 0, .int .i64 0, .int .i64 0]), 5, 48) := by kernel_rfl
theorem ext_from (s : ByteArray) (k : Nat) : s.extract k s.size = str (s.data.toList.drop k) := by
  apply ba_ext
  rw [str_list]
  have h : s.data.toList.length = s.size := size_list s
  simp
  rw [List.take_of_length_le (by rw [List.length_drop]; omega)]

set_option maxHeartbeats 8000000 in
set_option maxRecDepth 100000 in
theorem tokens_any (s : ByteArray) (w : World) (hT : Spaces w) (hs : s.size ≤ 65536) :
    Calls Tryd.prog 15 #[.string s] w (TokPost s.data.toList w) := by
  have HT := Lib.hid hT
  have t0 : decide ((65536 : Int) < (s.size : Int)) = false := by simp; omega
  clear hT
  go_enter Tryd.func15, Tryd.ntmps15
  go_wp2_with fail
  go_step3
  go_wp2_with fail
  have f0 : Below w.heap.size w (w.alloc (.cells #[.int .i64 0, .int .i64 0] 48)) := (Below.refl _ w).al _
  have y0 := Blk.new w 48 #[.int .i64 0, .int .i64 0]
  generalize w.alloc (.cells #[.int .i64 0, .int .i64 0] 48) = W0 at *
  have Y0 := Lib.hid y0
  clear y0 t0
  refine (start_any W0 (HT.out.below f0)).mono ?_
  rintro e w1 ⟨r1, r2, rfl, s1, s2, b1⟩
  have f1 := f0.then_ b1
  have y1 := Y0.out.below b1 Y0.out.lt
  have S1 := Lib.hid s1
  have S2 := Lib.hid s2
  clear s1 s2 f0 b1 Y0
  go_wp2_with fail
  go_step3
  go_wp2_with fail
  have b2 : Below w1.heap.size w1 (w1.alloc (.cells #[.map (some r1), .map (some r2)] 82)) := (Below.refl _ w1).al _
  have x2 := Blk.new w1 82 #[.map (some r1), .map (some r2)]
  generalize w1.alloc (.cells #[.map (some r1), .map (some r2)] 82) = W2 at *
  have F2 := Lib.hid (f1.then_ b2)
  have X2 := Lib.hid x2
  have Y2 := Lib.hid (y1.below b2 y1.lt)
  have S1' := Lib.hid (S1.out.below b2)
  have S2' := Lib.hid (S2.out.below b2)
  clear b2 x2 y1 S1 S2 f1 HT
  obtain ⟨l, hl⟩ : ∃ l, s.data.toList = l := ⟨_, rfl⟩
  have hll : l.length = s.size := by rw [← hl]; exact size_list s
  have HL := Lib.hid hl
  have HLL := Lib.hid hll
  clear hl hll
  go_loopw [5, 7, 8, 9] (fun v ln fi at_ wr => ∃ (k f : Nat) (line first : Int) (acc : List Tk), k ≤ s.size ∧ s.size < k + f ∧ at_ = .int .i64 k ∧ ln = .int .i64 line ∧ fi = .int .i64 first ∧ 0 ≤ first ∧ first ≤ k ∧ 1 ≤ line ∧ line ≤ k + 1 ∧ acc.length ≤ k ∧ Hid (OT wr W2.heap.size v acc) ∧ Below W2.heap.size W2 wr ∧ Hid (lexF f (l.drop k) line (k - first + 1) acc = lexS l)) (fun _ _ _ at_ _ => s.size - (intOf at_).toNat)
  case atStart => exact ⟨0, s.size + 1, 1, 0, [], by omega, by omega, rfl, rfl, rfl, by omega, by omega, by omega, by omega, by simp, OT.nil _ _, Below.refl _ _, by rw [Hid, lexS, HLL.out]; rfl⟩
  case round =>
    obtain ⟨k, f, line, first, acc, hk, hkf, rfl, rfl, rfl, hf0, hf1, hl0, hl1, hacc, ho, hb, hlx⟩ := hrel
    by_cases hlt : k < s.size
    · obtain ⟨f', rfl⟩ : ∃ f', f = f' + 1 := ⟨f - 1, by omega⟩
      obtain ⟨c, hc⟩ : ∃ c : UInt8, s[k] = c := ⟨_, rfl⟩
      have hlk : k < l.length := by rw [HLL.out]; exact hlt
      have hgc : l[k] = c := by
        have h1 := at_list s hlt
        rw [HL.out, hc, List.getElem?_eq_getElem hlk] at h1
        exact Option.some.inj h1
      have hdr : l.drop k = c :: l.drop (k + 1) := by rw [List.drop_eq_getElem_cons hlk, hgc]
      have hst := lexF_cons (f := f') (line := line) (col := k - first + 1) (acc := acc) hdr
      rw [hlx.out] at hst
      have HST := Lib.hid hst
      have HDR := Lib.hid hdr
      clear hst hdr hgc hlk hlx
      obtain ⟨x, hx⟩ : ∃ x : Nat, c.toNat = x := ⟨_, rfl⟩
      have hceq : ∀ d : UInt8, c = d ↔ x = d.toNat := fun d => by rw [← hx]; exact ⟨fun h => by rw [h], fun h => UInt8.toNat_inj.1 h⟩
      have HCEQ := Lib.hid hceq
      clear hceq
      by_cases h10 : x = 10
      · have e10 : ((x : Int) == 10) = true := by simp; omega
        have hst := HST.out
        rw [if_pos ((HCEQ.out 10).2 h10)] at hst
        have HS := Lib.hid hst
        clear hst h10
        go_wp2_with fail
        go_roundw
        case rel => exact ⟨k + 1, f', line + 1, k + 1, acc, by omega, by omega, by go_num, rfl, by go_num, by omega, by omega, by omega, by omega, by omega, ho.out.below_ ((Below.refl _ _).al _), hb.then_ ((Below.refl _ _).al _), by rw [Hid, HS.out]; congr 1; omega⟩
        case measure => simp [intOf]; omega
      · have e10 : ((x : Int) == 10) = false := by simp; omega
        have hst := HST.out
        rw [if_neg (fun h => h10 ((HCEQ.out 10).1 h))] at hst
        clear HST
        by_cases h32 : x = 32
        · rw [if_pos (.inl ((HCEQ.out 32).2 h32))] at hst
          have HS := Lib.hid hst
          have e32 : ((x : Int) == 32) = true := by simp; omega
          clear hst h10 h32
          go_wp2_with fail
          go_roundw
          case rel => exact ⟨k + 1, f', line, first, acc, by omega, by omega, by go_num, rfl, rfl, by omega, by omega, by omega, by omega, by omega, ho.out.below_ ((Below.refl _ _).al _), hb.then_ ((Below.refl _ _).al _), by rw [Hid, HS.out]; congr 1; omega⟩
          case measure => simp [intOf]; omega
        by_cases h9 : x = 9
        · rw [if_pos (.inr ((HCEQ.out 9).2 h9))] at hst
          have HS := Lib.hid hst
          have e32 : ((x : Int) == 32) = false := by simp; omega
          have e9 : ((x : Int) == 9) = true := by simp; omega
          clear hst h10 h32 h9
          go_wp2_with fail
          go_roundw
          case rel => exact ⟨k + 1, f', line, first, acc, by omega, by omega, by go_num, rfl, rfl, by omega, by omega, by omega, by omega, by omega, ho.out.below_ ((Below.refl _ _).al _), hb.then_ ((Below.refl _ _).al _), by rw [Hid, HS.out]; congr 1; omega⟩
          case measure => simp [intOf]; omega
        have e32 : ((x : Int) == 32) = false := by simp; omega
        have e9 : ((x : Int) == 9) = false := by simp; omega
        rw [if_neg (fun h => by rcases h with h | h; exact h32 ((HCEQ.out 32).1 h); exact h9 ((HCEQ.out 9).1 h))] at hst
        obtain ⟨d, hd⟩ : ∃ d, l.drop k = d := ⟨_, rfl⟩
        have hext : s.extract k s.size = str d := by rw [ext_from, HL.out, hd]
        have hdl : (str d).data.toList = d := str_list d
        have hds : d.length = s.size - k := by rw [← hd, List.length_drop, HLL.out]
        have hdz : (str d).size = s.size - k := by rw [← size_list, str_list, hds]
        have hdrop : ∀ q, d.drop q = l.drop (k + q) := fun q => by rw [← hd, List.drop_drop]
        rw [hd] at hst
        have HDD := Lib.hid hd
        have HDS := Lib.hid hds
        have HDZ := Lib.hid hdz
        have HDR2 := Lib.hid hdrop
        have g0 : (0 : Int) ≤ (k : Int) := by omega
        have g1 : (k : Int) ≤ (s.size : Int) := by omega
        clear hd hdl hds hdz hdrop
        by_cases h35 : x = 35
        · rw [if_pos ((HCEQ.out 35).2 h35)] at hst
          have e35 : ((x : Int) == 35) = true := by simp; omega
          have hn1 : preN nlB d ≤ s.size - k := by have := preN_le nlB d; have := HDS.out; omega
          have hn0 : 1 ≤ preN nlB d := by
            rw [← HDD.out, HDR.out]
            exact preN_pos (by unfold nlB; rw [hx]; simp; omega)
          have hrun : (str d).extract 0 (preN nlB (str d).data.toList) = str (d.take (preN nlB d)) := by rw [ext_str, str_list]
          rw [HDR2.out] at hst
          have hsz : (str (d.take (preN nlB d))).size = preN nlB d := by rw [← size_list, str_list, List.length_take]; have := preN_le nlB d; omega
          have HS := Lib.hid hst
          have HRUN := Lib.hid hrun
          generalize preN nlB d = q at *
          clear hst h10 h32 h9 h35 hrun
          go_wp2_with (first | (go_at_call 31; refine (runNl_any (str d) _ (by rw [HDZ.out]; omega)).mono ?_; rintro e w' ⟨rfl, rfl⟩; rw [HRUN.out]))
          go_roundw
          case rel => exact ⟨k + q, f', line, first, acc, by omega, by omega, by go_num, rfl, rfl, by omega, by omega, by omega, by omega, by omega, ho.out.below_ ((Below.refl _ _).al _), hb.then_ ((Below.refl _ _).al _), by rw [Hid, HS.out]; congr 1; omega⟩
          case measure => simp [intOf]; omega
        · have e35 : ((x : Int) == 35) = false := by simp; omega
          rw [if_neg (fun h => h35 ((HCEQ.out 35).1 h))] at hst
          have hpl := pieceS_len (l := d)
          obtain ⟨p, hp⟩ : ∃ p, pieceS d = p := ⟨_, rfl⟩
          rw [hp] at hst hpl
          have HPC := Lib.hid hp
          have HPL := Lib.hid hpl
          have HS := Lib.hid hst
          clear hst h10 h32 h9 h35 hp hpl
          have dne : d ≠ [] := by
            intro h
            have := HDS.out
            rw [h] at this
            simp at this
            omega
          have hpos : 0 < (str d).size := by rw [HDZ.out]; omega
          have FB := Lib.hid (F2.out.then_ hb)
          have XB := Lib.hid (X2.out.below hb X2.out.lt)
          have S1B := Lib.hid (S1'.out.below hb)
          have S2B := Lib.hid (S2'.out.below hb)
          go_upto_region 18 with fail
          have b3 : Below wr.heap.size wr (wr.alloc (.cells #[.int .i64 line, .int .i64 (k - first + 1)] 48)) := (Below.refl _ wr).al _
          have p3 := Blk.new wr 48 #[.int .i64 line, .int .i64 (k - first + 1)]
          generalize wr.alloc (.cells #[.int .i64 line, .int .i64 (k - first + 1)] 48) = W3 at *
          have P3 := Lib.hid p3
          have x3 := XB.out.below b3 XB.out.lt
          have s13 := S1B.out.below b3
          have s23 := S2B.out.below b3
          have F3 := Lib.hid (FB.out.then_ b3)
          have hb3 := hb.then_ b3
          have HB3 := Lib.hid hb3
          have ho3 := Lib.hid (ho.out.below_ b3)
          have KB : Hid (∀ W, Below W3.heap.size W3 W → W.cell? ⟨w1.heap.size, 0, none⟩ = some (.map (some r1)) ∧ W.cell? ⟨w1.heap.size, 1, none⟩ = some (.map (some r2))) := fun W hW => ⟨(x3.below hW x3.lt).cell 0, (x3.below hW x3.lt).cell 1⟩
          have PA : Hid (∀ W, Below W3.heap.size W3 W → Calls Tryd.prog 33 #[.agg #[.map (some r1), .map (some r2)], .string (str d)] W fun e w' => e = .returned (pcV p) ∧ Below W.heap.size W w') := fun W hW => by
            have := piece_any r1 r2 (str d) W (s13.below hW) (s23.below hW) hpos (by rw [HDZ.out]; omega)
            rw [str_list, HPC.out] at this
            exact this
          have FR := (Below.refl W3.heap.size W3).drew
          have l3 := p3.lt
          have zb : W2.heap.size ≤ wr.heap.size := hb.size
          have FR0 := FR
          have FR00 := Below.refl W3.heap.size W3
          clear p3 x3 s13 s23 hb3 ho b3 hb XB S1B S2B FB dne
          go_cut [12, 13] (fun q e wc => ∃ g, q = .pointer (some ⟨g, 0, none⟩) ∧ e = .int .i64 p.err ∧ Hid (Blk wc g 87 #[.int .i64 p.kind, .string (str p.text), .int .i64 p.n, .int .i64 0, .int .i64 0]) ∧ W3.heap.size ≤ g ∧ Below W3.heap.size W3 wc)
          case first =>
            go_region_held3 (fun w' => w'.cell? ⟨w1.heap.size, 0, none⟩ = some (.map (some r1)) ∧ w'.cell? ⟨w1.heap.size, 1, none⟩ = some (.map (some r2))) (first | exact KB.out _ FR | exact KB.out _ (FR.al _) | exact KB.out _ ((FR00.al _).drew) | exact KB.out _ (((((FR.setCell (Nat.le_refl _) _).setCell (Nat.le_refl _) _).setCell (Nat.le_refl _) _).setCell (Nat.le_refl _) _).setCell (Nat.le_refl _) _))
              (first
                | (go_at_call 33; (with_reducible refine (PA.out W3.drew FR0).mono ?_); rintro e w4 ⟨rfl, b4⟩; unfold pcV; have FR := FR0.then_ b4)
                | (go_at_call 33; (with_reducible refine (PA.out _ (FR00.al (.cells #[.int .i64 0, .string ⟨#[]⟩, .int .i64 0, .int .i64 0, .int .i64 0] 87)).drew).mono ?_); rintro e w4 ⟨rfl, b4⟩; unfold pcV; have FR := (FR00.al (.cells #[.int .i64 0, .string ⟨#[]⟩, .int .i64 0, .int .i64 0, .int .i64 0] 87)).drew.then_ b4; have n4 := (Blk.new W3 87 #[.int .i64 0, .string ⟨#[]⟩, .int .i64 0, .int .i64 0, .int .i64 0]).drew.below b4 (by simp); have k0 : w4.cell? ⟨W3.heap.size, 0, none⟩ = some (.int .i64 0) := n4.cell 0; have k1 : w4.cell? ⟨W3.heap.size, 1, none⟩ = some (.string ⟨#[]⟩) := n4.cell 1; have k2 : w4.cell? ⟨W3.heap.size, 2, none⟩ = some (.int .i64 0) := n4.cell 2; have k3 : w4.cell? ⟨W3.heap.size, 3, none⟩ = some (.int .i64 0) := n4.cell 3; have k4 : w4.cell? ⟨W3.heap.size, 4, none⟩ = some (.int .i64 0) := n4.cell 4; have q0 := n4.frozen 0; have q1 := n4.frozen 1; have q2 := n4.frozen 2; have q3 := n4.frozen 3; have q4 := n4.frozen 4))
            all_goals
              go_wp2_with fail
              go_meet
              case rel => first | exact ⟨W3.heap.size, rfl, rfl, ((((n4.set_ 0 _).set_ 1 _).set_ 2 _).set_ 3 _).set_ 4 _, Nat.le_refl _, (((((FR.setCell (Nat.le_refl _) _).setCell (Nat.le_refl _) _).setCell (Nat.le_refl _) _).setCell (Nat.le_refl _) _).setCell (Nat.le_refl _) _)⟩ | exact ⟨w4.heap.size, rfl, rfl, Blk.new _ _ _, FR.size, FR.al _⟩
          case rest =>
            obtain ⟨g, rfl, rfl, hg, hgl, b5⟩ := hcut
            clear KB PA FR FR0 FR00
            have P5 := P3.out.below b5 l3
            have c0 : wc.cell? ⟨wr.heap.size, 0, none⟩ = some (.int .i64 line) := P5.cell 0
            have c1 : wc.cell? ⟨wr.heap.size, 1, none⟩ = some (.int .i64 (k - first + 1)) := P5.cell 1
            have y5 := Y2.out.below ((HB3.out.then_ b5)) Y2.out.lt
            by_cases hpe : p.err = 0
            · have e0 : (p.err != 0) = false := by simp [hpe]
              have hst := HS.out
              rw [if_neg (fun h => h hpe)] at hst
              obtain ⟨hq1, hq2⟩ := HPL.out hpe (by intro h; have := HDS.out; rw [h] at this; simp at this; omega)
              rw [HDS.out] at hq2
              rw [HDR2.out] at hst
              have HS2 := Lib.hid hst
              have k1 : wc.cell? ⟨g, 1, none⟩ = some (.string (str p.text)) := hg.out.cell 1
              have k3 : wc.cell? ⟨g, 3, none⟩ = some (.int .i64 0) := hg.out.cell 3
              have k4 : wc.cell? ⟨g, 4, none⟩ = some (.int .i64 0) := hg.out.cell 4
              have q3 := hg.out.frozen 3
              have q4 := hg.out.frozen 4
              have hne : g ≠ wr.heap.size := by omega
              have o5 := ho3.out.below_ b5
              have hbw := HB3.out.then_ b5
              have hlt5 : ∀ q, Value.ownBlock u5 = some q → q < W3.heap.size := ho3.out.lt
              have hge5 := ho3.out.block
              have G6 : Hid (Blk ((wc.setCell ⟨g, 3, none⟩ (.int .i64 line)).setCell ⟨g, 4, none⟩ (.int .i64 (k - first + 1))) g 87 (tkCells ⟨p.kind, p.text, p.n, line, k - first + 1⟩).toArray) := ((hg.out.set_ 3 _).set_ 4 _)
              have b6 : Below W3.heap.size W3 ((wc.setCell ⟨g, 3, none⟩ (.int .i64 line)).setCell ⟨g, 4, none⟩ (.int .i64 (k - first + 1))) := (b5.setCell (p := ⟨g, 3, none⟩) hgl _).setCell (p := ⟨g, 4, none⟩) hgl _
              clear y5 P5 o5 hbw
              go_upto_region 22 with fail
              generalize ((wc.setCell ⟨g, 3, none⟩ (.int .i64 line)).setCell ⟨g, 4, none⟩ (.int .i64 (k - first + 1))) = W6 at *
              clear c0 c1 k1 k3 k4 q3 q4
              have o6 := Lib.hid (ho3.out.below_ b6)
              have w6 := HB3.out.then_ b6
              have k0 : W6.cell? ⟨g, 0, none⟩ = some (.int .i64 p.kind) := G6.out.cell 0
              have k1 : W6.cell? ⟨g, 1, none⟩ = some (.string (str p.text)) := G6.out.cell 1
              have k2 : W6.cell? ⟨g, 2, none⟩ = some (.int .i64 p.n) := G6.out.cell 2
              have k3 : W6.cell? ⟨g, 3, none⟩ = some (.int .i64 line) := G6.out.cell 3
              have k4 : W6.cell? ⟨g, 4, none⟩ = some (.int .i64 (k - first + 1)) := G6.out.cell 4
              have gl6 := G6.out.lt
              have RD := Lib.hid (tk_reads W6 ⟨p.kind, p.text, p.n, line, k - first + 1⟩)
              have ONE := Lib.hid (tkCells_one ⟨p.kind, p.text, p.n, line, k - first + 1⟩)
              have G7 := Lib.hid (G6.out.alloc (.cells (tkCells ⟨p.kind, p.text, p.n, line, k - first + 1⟩).toArray 87))
              have W6z : W2.heap.size ≤ W6.heap.size := w6.size
              have hsz : (str p.text).size = p.text.length := by rw [← size_list, str_list]
              obtain ⟨i0, hi0, hz0, hz1, hz2⟩ := info_parts info_tok
              have own7 := Lib.hid (World.ownsRow.alloc o6.out (.cells (tkCells ⟨p.kind, p.text, p.n, line, k - first + 1⟩).toArray 87))
              go_wp2_with (first | (at_builtin; refine wpList_append_any _ (by rfl) (.tmp 68) (.tmp 70) 47 rfl W2.heap.size 87 i0 _ 5 48 Tryd.underlying47 hi0 hz0 hz1 hz2 rfl (by omega) u5 acc.length (tksCells acc) rfl own7.out _ _ 1 1 (tkCells ⟨p.kind, p.text, p.n, line, k - first + 1⟩) rfl RD.out ONE.out (by unfold maxLen; omega) (by omega) (by simp; omega) ?_; intro v8 w8 o8 g8 at8; have k1' : w8.cell? ⟨g, 1, none⟩ = some (.string (str p.text)) := (G7.out.grown g8 (fun e => by have := hlt5 g e.symm; omega)).cell 1; have O8 := Lib.hid o8; have G8 := Lib.hid g8; clear o8 g8 at8))
              have O9 : Hid (OT w8 W2.heap.size v8 (acc ++ [⟨p.kind, p.text, p.n, line, k - first + 1⟩])) := by
                have := O8.out
                unfold OT Hid
                rw [tksCells_snoc, List.length_append]
                exact this
              have b8 : Below W2.heap.size W2 w8 := (w6.alloc w6.size _).grown G8.out (by have := w6.size; simp; omega) hge5
              clear k0 k1 k2 k3 k4 k1' O8 G8 G7 RD ONE own7
              go_roundw
              case rel => exact ⟨k + p.text.length, f', line, first, acc ++ [⟨p.kind, p.text, p.n, line, k - first + 1⟩], by omega, by omega, by go_num, rfl, rfl, by omega, by omega, by omega, by omega, by simp; omega, O9, b8, by rw [Hid, HS2.out]; congr 1; omega⟩
              case measure => simp [intOf]; omega
            · have e0 : (p.err != 0) = true := by simpa using hpe
              have hst := HS.out
              rw [if_pos hpe] at hst
              have HS2 := Lib.hid hst
              have k0 : wc.cell? ⟨w.heap.size, 0, none⟩ = some (.int .i64 0) := y5.cell 0
              have k1 : wc.cell? ⟨w.heap.size, 1, none⟩ = some (.int .i64 0) := y5.cell 1
              have q0 := y5.frozen 0
              have q1 := y5.frozen 1
              have F5 := Lib.hid (F3.out.then_ b5)
              have Y5 := Lib.hid y5
              have hne : wr.heap.size ≠ w.heap.size := by have := Y2.out.lt; omega
              have cc : wc.drew.cell? ⟨wr.heap.size, 0, none⟩ = some (.int .i64 line) ∧ wc.drew.cell? ⟨wr.heap.size, 1, none⟩ = some (.int .i64 (k - first + 1)) := ⟨c0, c1⟩
              clear hst HS y5 P5
              go_wp2_with fail
              go_region_held3 (fun w' => w'.cell? ⟨wr.heap.size, 0, none⟩ = some (.int .i64 line) ∧ w'.cell? ⟨wr.heap.size, 1, none⟩ = some (.int .i64 (k - first + 1))) (first | (with_reducible exact cc) | exact ⟨(far2 hne _ _ _).trans cc.1, (far2 hne _ _ _).trans cc.2⟩) (fail)
              go_wp2_with fail
              rw [Exit.noGoto_ret]
              refine bodyPost_ret (v := .tuple #[.slice none 0 0, .agg #[.int .i64 line, .int .i64 (k - first + 1)], .int .i64 p.err]) (by simp [results, Tryd.results15, go_sem, k0, k1]) rfl ?_
              have HX : lexS s.data.toList = .err line (k - first + 1) p.err := by rw [HL.out]; exact HS2.out
              unfold TokPost
              rw [HX]
              exact ⟨rfl, ((F5.out.drew.setCell (Nat.le_refl _) _).setCell (Nat.le_refl _) _)⟩
    · obtain rfl : k = s.size := by omega
      obtain ⟨f', rfl⟩ : ∃ f', f = f' + 1 := ⟨f - 1, by omega⟩
      have hnil : l.drop s.size = [] := List.drop_of_length_le (by rw [HLL.out]; omega)
      have hst := hlx.out
      rw [hnil] at hst
      have HS : Hid (lexS l = .ok (acc ++ [⟨0, [], 0, line, s.size - first + 1⟩])) := hst.symm
      clear hst hnil hlx
      have RD := Lib.hid (tk_reads wr ⟨0, [], 0, line, s.size - first + 1⟩)
      have ONE := Lib.hid (tkCells_one ⟨0, [], 0, line, s.size - first + 1⟩)
      have hbz := hb.size
      have Y7 := Lib.hid ((Y2.out.below hb Y2.out.lt).alloc (.cells (tkCells ⟨0, [], 0, line, s.size - first + 1⟩).toArray 87))
      have hge5 := ho.out.block
      have F7 := Lib.hid (F2.out.then_ hb)
      obtain ⟨i0, hi0, hz0, hz1, hz2⟩ := info_parts info_tok
      have own7 := Lib.hid (World.ownsRow.alloc ho.out (.cells (tkCells ⟨0, [], 0, line, s.size - first + 1⟩).toArray 87))
      go_wp2_with (first | (at_builtin; refine wpList_append_any _ (by rfl) (.tmp 77) (.tmp 85) 47 rfl W2.heap.size 87 i0 _ 5 48 Tryd.underlying47 hi0 hz0 hz1 hz2 rfl (by omega) u5 acc.length (tksCells acc) rfl own7.out _ _ 1 1 (tkCells ⟨0, [], 0, line, s.size - first + 1⟩) rfl RD.out ONE.out (by unfold maxLen; omega) (by omega) (by simp; omega) ?_; intro v8 w8 o8 g8 at8; have Y8 := Lib.hid (Y7.out.grown g8 (fun e => by have := hge5 _ e.symm; have := Y2.out.lt; omega)); have k0 : w8.cell? ⟨w.heap.size, 0, none⟩ = some (.int .i64 0) := Y8.out.cell 0; have k1 : w8.cell? ⟨w.heap.size, 1, none⟩ = some (.int .i64 0) := Y8.out.cell 1; have q0 := Y8.out.frozen 0; have q1 := Y8.out.frozen 1; have O8 := Lib.hid o8; have G8 := Lib.hid g8; clear o8 g8 at8))
      rw [Exit.noGoto_ret]
      have O9 : OT w8 W2.heap.size v8 (acc ++ [⟨0, [], 0, line, s.size - first + 1⟩]) := by
        have := O8.out
        unfold OT
        rw [tksCells_snoc, List.length_append]
        exact this
      have b8 : Below W2.heap.size W2 w8 := (hb.alloc hb.size _).grown G8.out (by simp; omega) hge5
      obtain ⟨A8, c8, rfl⟩ := own_slice O9
      refine bodyPost_ret (v := .tuple #[.slice A8 (acc ++ [(⟨0, [], 0, line, s.size - first + 1⟩ : Tk)]).length c8, .agg #[.int .i64 0, .int .i64 0], .int .i64 0]) (by simp [results, Tryd.results15, go_sem, k0, k1]) rfl ?_
      have HX : lexS s.data.toList = .ok (acc ++ [⟨0, [], 0, line, s.size - first + 1⟩]) := by rw [HL.out]; exact HS.out
      have kk : Kept (fun q => q = w.heap.size) w8 ((w8.setCell ⟨w.heap.size, 0, none⟩ (.int .i64 0)).setCell ⟨w.heap.size, 1, none⟩ (.int .i64 0)) := ((Kept.refl (fun q => q = w.heap.size) w8).setCell (p := ⟨w.heap.size, 0, none⟩) (fun _ => rfl) _).setCell (p := ⟨w.heap.size, 1, none⟩) (fun _ => rfl) _
      have hzz := F2.out.size
      have hyz := Y2.out.lt
      have F8 := F2.out.trans (b8.mono hzz)
      unfold TokPost
      rw [HX]
      exact ⟨A8, c8, rfl, (O9.kept kk (fun q hq e => by omega)).mono hzz, F8.trans (kk.to_below F8.size (fun q hq e => by omega))⟩
end Go.Proofs.YtdmlnoeneoomfaaDoor
