
/-
  The writer's statements: what is asked, and plain laws for it. The writer's stmt. (Printed by wip/tools/genv13.py.) The writer's block; statements at any depth. The writer's part; rows of texts that grow; the pieces of a program's lines.
-/
import Derived.Test.YtdgekckedchjbaaGreatDoorQN
import Derived.Test.YtdgekckedchjbaaGreatDoorQB
namespace Go.Proofs.YtdgekckedchjbaaGreatDoor
open Go.RowKit

/-- The table of the statements' parts. -/
structure TabP (base : Nat) (w : World) : Prop where
  at_ : ∀ k : Nat, k < 10 → w.cell? ⟨1, k, none⟩ = some (.int .i64 (partsS (k : Int) : Nat))
  lt : 4 ≤ base
theorem TabP.low {base : Nat} {w w' : World} (h : TabP base w) (hb : Below base w w') : TabP base w' :=
  ⟨fun k hk => (hb.cell (p := ⟨1, k, none⟩) (by have := h.lt; show (1 : Nat) < base; omega)).trans (h.at_ k hk), h.lt⟩
theorem TabP.more {base base' : Nat} {w : World} (h : TabP base w) (hb : base ≤ base') : TabP base' w := ⟨h.at_, Nat.le_trans h.lt hb⟩
theorem Tabs.low {base : Nat} {w w' : World} (h : Tabs base w) (hb : Below base w w') : Tabs base w' := h.below hb (Nat.le_refl _)
theorem join_len (xs : List (List UInt8)) : (Lib.join xs [32]).length ≤ (xs.map fun x => x.length + 1).sum := by
  unfold Lib.join
  induction xs with
  | nil => simp
  | cons a l ih =>
    cases l with
    | nil => simp
    | cons b l =>
      rw [List.intercalate_cons_cons, List.length_append, List.length_append, List.map_cons, List.sum_cons]
      simp only [List.length_cons, List.length_nil] at *
      omega
theorem mem_rawEs : ∀ {E : List Gx} {T : List (List UInt8)}, rawEs E = some T → ∀ x ∈ E, ∃ t ∈ T, rawE x = some t
  | [], _, _, x, hx => by simp at hx
  | g :: l, T, h, x, hx => by
    rw [rawEs] at h
    cases hg : rawE g with
    | none => rw [hg] at h; cases h
    | some a =>
      cases hl : rawEs l with
      | none => rw [hg, hl] at h; cases h
      | some b =>
        rw [hg, hl] at h
        injection h with h
        subst h
        rcases List.mem_cons.1 hx with rfl | hx
        · exact ⟨a, List.mem_cons_self .., hg⟩
        · obtain ⟨t, ht, e⟩ := mem_rawEs hl x hx
          exact ⟨t, List.mem_cons_of_mem _ ht, e⟩
theorem rawEs_len : ∀ {E : List Gx} {T : List (List UInt8)}, rawEs E = some T → T.length = E.length
  | [], _, h => by
    rw [rawEs] at h
    injection h with h
    subst h
    rfl
  | g :: l, T, h => by
    rw [rawEs] at h
    cases hg : rawE g with
    | none => rw [hg] at h; cases h
    | some a =>
      cases hl : rawEs l with
      | none => rw [hg, hl] at h; cases h
      | some b =>
        rw [hg, hl] at h
        injection h with h
        subst h
        simp [rawEs_len hl]
theorem rawEs_snoc {E : List Gx} {T : List (List UInt8)} {x : Gx} {t : List UInt8} (h : rawEs E = some T) (hx : rawE x = some t) : rawEs (E ++ [x]) = some (T ++ [t]) := by
  induction E generalizing T with
  | nil =>
    rw [rawEs] at h
    injection h with h
    subst h
    rw [List.nil_append, rawEs, hx, rawEs]
    rfl
  | cons g l ih =>
    rw [rawEs] at h
    cases hg : rawE g with
    | none => rw [hg] at h; cases h
    | some a =>
      cases hl : rawEs l with
      | none => rw [hg, hl] at h; cases h
      | some b =>
        rw [hg, hl] at h
        injection h with h
        subst h
        rw [List.cons_append, rawEs, hg, ih hl]
        rfl
/-- One of the texts is none, or too long. -/
def Ill (E : List Gx) (room : Nat) : Prop := ∃ x ∈ E, rawE x = none ∨ ∃ t, rawE x = some t ∧ room < t.length
theorem join_mem {xs : List (List UInt8)} {x : List UInt8} (h : x ∈ xs) : x.length ≤ (Lib.join xs [32]).length := by
  unfold Lib.join
  induction xs with
  | nil => simp at h
  | cons a l ih =>
    cases l with
    | nil =>
      obtain rfl := List.mem_singleton.1 h
      simp
    | cons b l =>
      rw [List.intercalate_cons_cons, List.length_append, List.length_append]
      rcases List.mem_cons.1 h with rfl | h
      · omega
      · have := ih h
        omega
theorem line_mem {deep : Nat} {ps : List (List UInt8)} {x : List UInt8} (h : x ∈ ps) : x.length ≤ (lineB deep ps).length := by
  unfold lineB
  have := join_mem h
  simp only [List.length_append]
  omega
theorem ocat_some_iff {a b : Option (List UInt8)} {t : List UInt8} (h : ocat a b = some t) : ∃ u v, a = some u ∧ b = some v ∧ t = u ++ v := by
  cases a <;> cases b <;> simp [ocat] at h
  exact ⟨_, _, rfl, rfl, h.symm⟩
theorem payB_len (t : List UInt8) : t.length ≤ (payB t).length := by
  unfold payB
  split
  · simp
    omega
  · exact Nat.le_refl _
theorem Sx.E_ {k lo hi : Int} {nm : List UInt8} {E : List Gx} {L El : List Sx} {deep : Nat} {t : List UInt8} (h : rawS deep (.mk k nm E lo hi L El) = some t) : ∃ T, rawEs E = some T ∧ 0 ≤ k ∧ k < 10 ∧ E.length = partsS k := by
  rw [rawS] at h
  split at h
  · rename_i hc
    cases hE : rawEs E with
    | none => rw [hE] at h; cases h
    | some T => exact ⟨T, rfl, hc⟩
  · cases h
/-- No text of a statement is longer than the statement's lines. -/
theorem rawS_long {k lo hi : Int} {nm : List UInt8} {E : List Gx} {L El : List Sx} {deep : Nat} {t : List UInt8} (h : rawS deep (.mk k nm E lo hi L El) = some t) {x : Gx} (hx : x ∈ E) {u : List UInt8} (hu : rawE x = some u) : u.length ≤ t.length := by
  obtain ⟨T, hT, h0, h10, hl⟩ := Sx.E_ h
  obtain ⟨u', hm, hu'⟩ := mem_rawEs hT x hx
  obtain rfl := Option.some.inj (hu.symm.trans hu')
  have hTl := rawEs_len hT
  rw [rawS, if_pos ⟨h0, h10, hl⟩, hT] at h
  simp only at h
  rw [hl] at hTl
  obtain ⟨m, rfl⟩ : ∃ m : Nat, k = (m : Int) := ⟨k.toNat, by omega⟩
  have hcases : m = 0 ∨ m = 1 ∨ m = 2 ∨ m = 3 ∨ m = 4 ∨ m = 5 ∨ m = 6 ∨ m = 7 ∨ m = 8 ∨ m = 9 := by omega
  have g0 : 1 ≤ T.length → T.getD 0 [] ∈ T := fun h => by rw [List.getD_eq_getElem?_getD, List.getElem?_eq_getElem (by omega)]; exact List.getElem_mem _
  have hone : T.length = 1 → u = T.getD 0 [] := fun h => by
    match T, h, hm with
    | [a], _, hm => exact List.mem_singleton.1 hm
  have htwo : T.length = 2 → u = T.getD 0 [] ∨ u = T.getD 1 [] := fun h => by
    match T, h, hm with
    | [a, b], _, hm => simpa using hm
  rcases hcases with rfl | rfl | rfl | rfl | rfl | rfl | rfl | rfl | rfl | rfl <;> simp [partsS] at hTl h
  · subst h
    rw [hone hTl]
    exact line_mem (by simp)
  · subst h
    rcases htwo hTl with e | e <;> rw [e] <;> exact line_mem (by simp)
  · obtain ⟨a, b, ha, hb, rfl⟩ := ocat_some_iff h
    injection ha with ha
    have : u.length ≤ a.length := by
      rw [hone hTl, ← ha]
      exact line_mem (by simp)
    simp
    omega
  · rw [hTl] at hm; simp at hm
  · rw [hTl] at hm; simp at hm
  · rw [hTl] at hm; simp at hm
  · subst h
    rw [hone hTl]
    exact line_mem (by simp)
  · rw [hTl] at hm; simp at hm
  · subst h
    rcases htwo hTl with e | e
    · rw [e]
      exact line_mem (by simp)
    · rw [e]
      exact Nat.le_trans (payB_len _) (line_mem (by simp))
  · subst h
    rw [hone hTl]
    exact line_mem (by simp)
/-- What a statement's lines make of the writer, its texts being read ahead. -/
theorem WOut.stmt {room deep : Nat} {l l' : List UInt8} {bf b' : Bool} {k lo hi : Int} {nm : List UInt8} {E : List Gx} {L El : List Sx} {T : List (List UInt8)} {o : Option (List UInt8)} (hg : bf = false → rawEs E = some T) (hi_ : bf = true → Ill E room)
    (ho : rawEs E = some T → rawS deep (.mk k nm E lo hi L El) = o) (h : WOut room l bf o l' b') : WOut room l false (rawS deep (.mk k nm E lo hi L El)) l' b' := by
  cases bf with
  | false => rw [ho (hg rfl)]; exact h
  | true =>
    refine ⟨fun e => ?_, fun _ => ?_, h.len⟩
    · have := (h.good e).1
      cases this
    · obtain ⟨x, hx, hn⟩ := hi_ rfl
      cases hS : rawS deep (.mk k nm E lo hi L El) with
      | none => exact .inr (.inl rfl)
      | some t =>
        obtain ⟨T', hT, _⟩ := Sx.E_ hS
        obtain ⟨u, hu, hxu⟩ := mem_rawEs hT x hx
        rcases hn with hn | ⟨v, hv, hl⟩
        · rw [hn] at hxu; cases hxu
        · exact .inr (.inr ⟨t, rfl, by have := rawS_long hS hx hv; omega⟩)
/-- An element of a row of expressions. -/
theorem Kid.ofA {base : Nat} {w : World} {A : Option Addr} {l : Nat} {gs : List Gx} (h : ElsG (fun k => k < base) w 4 1000000 (GA (fun k => k < base) w) A l gs) {i : Nat} (hi : i < gs.length) (hb : base ≤ w.heap.size) :
    ∃ (n b o : Nat) (op N : Int) (nm : ByteArray) (A' : Option Addr) (l' c' : Nat), Kid base n w A i (gs[i]'hi) b o op N nm A' l' c' ∧ FitG n (gs[i]'hi) := by
  obtain ⟨xs, h1, h0, -, h4, h5⟩ := h
  obtain ⟨n, hc, hf⟩ := h5 i hi
  obtain ⟨op, N, nm, A', l', c', hcs⟩ := hc.form
  obtain ⟨b, o, hA, hbl, hq⟩ := h1.chunk (by omega) (show i < l by omega) hcs
  rw [hcs] at hc
  exact ⟨n, b, o, op, N, nm, A', l', c', ⟨hA, hc, hq 0 _ rfl, hq 1 _ rfl, hq 2 _ rfl, hq 3 _ rfl, h0 (by omega) _ hA, hb⟩, hf⟩
end Go.Proofs.YtdgekckedchjbaaGreatDoor
namespace Go.Proofs.YtdgekckedchjbaaGreatDoor
open Go.RowKit

def WStmtOk (base n : Nat) : Prop := ∀ (g room deep : Nat) (ob : Option Nat) (l : List UInt8) (kind lo hi : Int) (nm : List UInt8) (E : List Gx) (L El : List Sx) (A1 : Option Addr) (l1 c1 : Nat) (A2 : Option Addr) (l2 c2 : Nat) (A3 : Option Addr) (l3 c3 : Nat) (w : World),
  Tabs base w → TabP base w → Wr base w g ob room l false → (nm.length ≤ 1000000 ∧ FitN lo ∧ FitN hi) → ElsG (fun k => k < base) w 4 1000000 (GA (fun k => k < base) w) A1 l1 E → ElsG (fun k => k < base) w 7 1000000 (XE (fun k => k < base) w n) A2 l2 L →
  ElsG (fun k => k < base) w 7 1000000 (XE (fun k => k < base) w n) A3 l3 El → deep + n ≤ 900 → 0 ≤ kind → kind < 10 → E.length = partsS kind →
  Calls Tryz.prog 136 #[.pointer (some ⟨g, 0, none⟩), .agg #[.int .i64 kind, .string (str nm), .slice A1 l1 c1, .int .i64 lo, .int .i64 hi, .slice A2 l2 c2, .slice A3 l3 c3], .int .i64 deep] w (WroteE base w g ob room l false (rawS deep (.mk kind nm E lo hi L El)))
def WBlockOk (base n : Nat) : Prop := ∀ (g room deep : Nat) (ob : Option Nat) (l : List UInt8) (bad : Bool) (A : Option Addr) (len cap : Nat) (L : List Sx) (w : World),
  Tabs base w → TabP base w → Wr base w g ob room l bad → ElsG (fun k => k < base) w 7 1000000 (XE (fun k => k < base) w n) A len L → deep + n ≤ 901 →
  Calls Tryz.prog 99 #[.pointer (some ⟨g, 0, none⟩), .slice A len cap, .int .i64 deep] w (WroteE base w g ob room l bad (rawB deep L))
theorem rv_new5 (W : World) (a b c d e : ByteArray) : RV (W.alloc (.cells #[.string a, .string b, .string c, .string d, .string e] 9)) (some ⟨W.heap.size, 0, none⟩) 5 ([a, b, c, d, e].map Value.string) := by
  refine ⟨rfl, fun _ => ⟨_, rfl, by simp, fun j u hu => ?_⟩⟩
  rw [Addr.add_lit, Nat.zero_add, (Blk.new W 9 #[.string a, .string b, .string c, .string d, .string e]).cell j]
  simpa using hu
theorem join_le {ps : List ByteArray} (h : (ps.map fun s => s.data.size + 1).sum ≤ 140737488355328) : (Lib.join (ps.map (·.data.toList)) [32]).length ≤ 140737488355328 := by
  refine Nat.le_trans (join_len _) ?_
  rw [List.map_map]
  simpa [Function.comp_def] using h
def stmtO (deep : Nat) (k : Int) (nm : List UInt8) (T : List (List UInt8)) (lo hi : Int) (L El : List Sx) : Option (List UInt8) :=
  if k = 0 then some (lineB deep [nm, [61], T.getD 0 []])
  else if k = 1 then some (lineB deep [nm, [91], T.getD 0 [], [93, 32, 61], T.getD 1 []])
  else if k = 2 then ocat (some (lineB deep [[105, 102], T.getD 0 [], [116, 104, 101, 110]])) (ocat (rawB (deep + 1) L)
    (ocat (if El.length = 0 then some [] else ocat (some (lineB deep [[101, 108, 115, 101]])) (rawB (deep + 1) El)) (some (lineB deep [[101, 110, 100]]))))
  else if k = 3 then ocat (some (lineB deep [[102, 111, 114], nm, Lib.itoa lo, Lib.itoa hi, [100, 111]])) (ocat (rawB (deep + 1) L) (some (lineB deep [[101, 110, 100]])))
  else if k = 4 then some (lineB deep [[114, 101, 102, 117, 115, 101]])
  else if k = 5 then some (lineB deep [[114, 111, 108, 108], nm, Lib.itoa lo])
  else if k = 6 then some (lineB deep [[115, 101, 97, 116], T.getD 0 []])
  else if k = 7 then some (lineB deep [[111, 118, 101, 114]])
  else if k = 8 then some (lineB deep [[112, 97, 121], T.getD 0 [], payB (T.getD 1 [])])
  else some (lineB deep [[114, 101, 115, 116], T.getD 0 []])
theorem rawS_of {k lo hi : Int} {nm : List UInt8} {E : List Gx} {L El : List Sx} {T : List (List UInt8)} {deep : Nat} (h : 0 ≤ k ∧ k < 10 ∧ E.length = partsS k) (hT : rawEs E = some T) : rawS deep (.mk k nm E lo hi L El) = stmtO deep k nm T lo hi L El := by
  rw [rawS, if_pos h, hT]
  rfl
theorem getD_len {T : List (List UInt8)} {room : Nat} (h : ∀ t ∈ T, t.length ≤ room) (i : Nat) : (T.getD i []).length ≤ room := by
  rw [List.getD_eq_getElem?_getD]
  rcases Nat.lt_or_ge i T.length with hi | hi
  · rw [List.getElem?_eq_getElem hi]
    exact h _ (List.getElem_mem hi)
  · rw [List.getElem?_eq_none hi]
    simp
theorem ElsG.low_ {base n len : Nat} {w w' : World} {A : Option Addr} {L : List Sx} (h : ElsG (fun k => k < base) w 7 1000000 (XE (fun k => k < base) w n) A len L) (hb : Below base w w') : ElsG (fun k => k < base) w' 7 1000000 (XE (fun k => k < base) w' n) A len L :=
  h.kept (S := fun k => ¬ k < base) ⟨hb.os, hb.tape, hb.output, hb.size, fun k _ hn => hb.block k (Classical.not_not.1 hn)⟩ (fun _ _ hk hn => hn hk) (fun _ _ hk => hk)
    (XE.kept (S := fun k => ¬ k < base) ⟨hb.os, hb.tape, hb.output, hb.size, fun k _ hn => hb.block k (Classical.not_not.1 hn)⟩ (fun _ _ hk hn => hn hk) (fun _ _ hk => hk) n)
theorem payB_yes {s : ByteArray} {t : List UInt8} (h : s.data.toList = t) (hq : Lib.hasPrefix s.data.toList (⟨#[45]⟩ : ByteArray).data.toList = true) : payB t = [40, 32] ++ s.data.toList ++ [32, 41] := by
  unfold payB
  rw [← h, if_pos]
  cases hs : s.data.toList with
  | nil => rw [hs] at hq; simp [Lib.hasPrefix] at hq
  | cons a r => rw [hs] at hq; simp [Lib.hasPrefix] at hq; simp [hq]
theorem payB_no {s : ByteArray} {t : List UInt8} (h : s.data.toList = t) (hq : Lib.hasPrefix s.data.toList (⟨#[45]⟩ : ByteArray).data.toList = false) : payB t = s.data.toList := by
  unfold payB
  rw [← h, if_neg]
  intro e
  cases hs : s.data.toList with
  | nil => rw [hs] at e; cases e
  | cons a r =>
    rw [hs] at e hq
    injection e with e
    subst e
    simp [Lib.hasPrefix] at hq
/-- The texts that were read so far. -/
def TxI (base : Nat) (w : World) (g : Nat) (ob : Option Nat) (room : Nat) (l : List UInt8) (sb tb : Nat) (sc : Array Value) (E : List Gx) (k : Nat) (wr : World) : Prop :=
  ∃ (bf : Bool) (T : List (List UInt8)), Turns w g ob wr ob ∧ Wr base wr g ob room l bf ∧ Blk wr sb 95 sc ∧ Blk wr tb 208 #[.string (str (T.getD 0 [])), .string (str (T.getD 1 []))] ∧
    T.length = k ∧ (∀ t ∈ T, t.length ≤ room) ∧ (bf = false → rawEs (E.take k) = some T) ∧ (bf = true → Ill E room)

set_option maxHeartbeats 8000000 in
set_option maxRecDepth 100000 in
theorem stmt_step (base n : Nat) (HB : WBlockOk base n) : WStmtOk base n := by
  intro g room deep ob l kind lo hi nm E L El A1 l1 c1 A2 l2 c2 A3 l3 c3 w hT hP h hf hE hL hEl hd hk0 hk10 hlen
  obtain ⟨NM, hNM⟩ : ∃ s, s = str nm := ⟨_, rfl⟩
  rw [← hNM]
  have hl1 : l1 = E.length := by obtain ⟨_, _, _, _, h, _⟩ := hE; exact h.symm
  have hl2 : E.length ≤ 2 := by rw [hlen]; unfold partsS; split <;> (try split) <;> omega
  have f0 : Below w.heap.size w (w.alloc (.cells #[.int .i64 kind, .string NM, .slice A1 l1 c1, .int .i64 lo, .int .i64 hi, .slice A2 l2 c2, .slice A3 l3 c3] 95)) := (Below.refl _ w).al _
  have HH := Lib.hid h
  have H0 := Lib.hid (h.below f0)
  have X0 := Lib.hid (Blk.new w 95 #[.int .i64 kind, .string NM, .slice A1 l1 c1, .int .i64 lo, .int .i64 hi, .slice A2 l2 c2, .slice A3 l3 c3])
  have FX0 := Lib.hid (Far.new h (.cells #[.int .i64 kind, .string NM, .slice A1 l1 c1, .int .i64 lo, .int .i64 hi, .slice A2 l2 c2, .slice A3 l3 c3] 95))
  have T0 := Lib.hid (Turns.of_below (g := g) (ob := ob) f0)
  have TB := Lib.hid hT
  have TP := Lib.hid hP
  have HE := Lib.hid hE
  have HL := Lib.hid hL
  have HEl := Lib.hid hEl
  have HN := Lib.hid hNM
  have HFt := Lib.hid hf
  have HL1 := Lib.hid hl1
  have HLen := Lib.hid hlen
  have HBk := Lib.hid HB
  have hr1 := h.2.2.1
  have hr2 := h.2.2.2.1
  clear f0 hT hP h hf hE hL hEl hNM hl1 hlen HB
  go_enter Tryz.func136, Tryz.ntmps136
  go_upto_region 1 with fail
  generalize w.alloc (.cells #[.int .i64 kind, .string NM, .slice A1 l1 c1, .int .i64 lo, .int .i64 hi, .slice A2 l2 c2, .slice A3 l3 c3] 95) = W0 at *
  have f1 : Below W0.heap.size W0 (W0.alloc (.cells #[.string ⟨#[]⟩, .string ⟨#[]⟩] 208)) := (Below.refl _ W0).al _
  have H1 := Lib.hid (H0.out.below f1)
  have X1 := Lib.hid (X0.out.below f1 X0.out.lt)
  have Y1 := Lib.hid (Blk.new W0 208 #[.string ⟨#[]⟩, .string ⟨#[]⟩])
  have FX1 := Lib.hid (FX0.out.below f1)
  have FY1 := Lib.hid (Far.new H0.out (.cells #[.string ⟨#[]⟩, .string ⟨#[]⟩] 208))
  have T1 := Lib.hid (T0.out.below f1)
  have hxy : w.heap.size < W0.heap.size := X0.out.lt
  have HXY := Lib.hid hxy
  clear f1 H0 X0 FX0 T0 hxy
  go_upto_region 2 with fail
  generalize W0.alloc (.cells #[.string ⟨#[]⟩, .string ⟨#[]⟩] 208) = W1 at *
  have hAE : 0 < l1 → ∃ b o, A1 = some ⟨b, o, none⟩ := fun hp => by
    obtain ⟨_, b, o, _, _, _, _, _, _, hk, _⟩ := Kid.ofA HE.out (i := 0) (by have := HL1.out; omega) HH.out.low
    exact ⟨b, o, hk.at_⟩
  have HAE := Lib.hid hAE
  clear hAE
  have x2 : W1.cell? ⟨w.heap.size, 2, none⟩ = some (.slice A1 l1 c1) := X1.out.cell 2
  go_wp2_with fail
  clear x2
  go_loopw [13] (fun i wr => ∃ k : Nat, k ≤ l1 ∧ i = .int .i64 k ∧ Hid (TxI base w g ob room l w.heap.size W0.heap.size #[.int .i64 kind, .string NM, .slice A1 l1 c1, .int .i64 lo, .int .i64 hi, .slice A2 l2 c2, .slice A3 l3 c3] E k wr)) (fun i _ => l1 - (intOf i).toNat)
  case atStart => exact ⟨0, by omega, rfl, false, [], T1.out, H1.out, X1.out, Y1.out, rfl, (fun t ht => by simp at ht), (fun _ => rfl), (fun e => by cases e)⟩
  case round =>
    obtain ⟨k, hk, rfl, hi⟩ := hrel
    obtain ⟨bf, T, t2, r2, b2, y2, htl, htr, hgd, hil⟩ := hi.out
    have T2 := Lib.hid t2
    have R2 := Lib.hid r2
    have B2 := Lib.hid b2
    have Y2 := Lib.hid y2
    have HTL := Lib.hid htl
    have HTR := Lib.hid htr
    have HGD := Lib.hid hgd
    have HIL := Lib.hid hil
    clear t2 r2 b2 y2 htl htr hgd hil hi
    by_cases hlt : k < l1
    · have hkE : k < E.length := by have := HL1.out; omega
      obtain ⟨b0, o0, hA⟩ := HAE.out (by omega)
      subst hA
      obtain ⟨kn, kb, ko, kop, kN, knm, kA, kl, kc, hkid, hkf⟩ := Kid.ofA HE.out (i := k) hkE HH.out.low
      obtain ⟨rfl, rfl⟩ : b0 = kb ∧ o0 = ko := by
        have := hkid.at_
        injection this with this
        injection this with q1 q2
        exact ⟨q1, q2⟩
      have HX := Lib.hid (List.take_succ_eq_append_getElem hkE)
      have HM := Lib.hid (List.getElem_mem hkE)
      generalize E[k] = x at *
      have KD := Lib.hid (hkid.below (T2.out.low HH.out))
      have KF := Lib.hid hkf
      clear hkid hkf
      have c0 : wr.cell? ⟨b0, o0 + k * 4, none⟩ = some (.int .i64 kop) := KD.out.c0
      have c1' : wr.cell? ⟨b0, o0 + k * 4 + 1, none⟩ = some (.int .i64 kN) := KD.out.c1
      have c2' : wr.cell? ⟨b0, o0 + k * 4 + 2, none⟩ = some (.string knm) := KD.out.c2
      have c3' : wr.cell? ⟨b0, o0 + k * 4 + 3, none⟩ = some (.slice kA kl kc) := KD.out.c3
      have g1 : (0 : Int) ≤ (k : Int) := by omega
      have g2 : (k : Int) < (l1 : Int) := by omega
      have g3 : (k : Int) < 2 := by have := HL1.out; omega
      have f3 : Below wr.heap.size wr (wr.alloc (.cells #[.int .i64 kop, .int .i64 kN, .string knm, .slice kA kl kc] 40)) := (Below.refl _ wr).al _
      have R3 := Lib.hid (R2.out.below f3)
      have E3 := Lib.hid (Blk.new wr 40 #[.int .i64 kop, .int .i64 kN, .string knm, .slice kA kl kc])
      have T3 := Lib.hid (Turns.of_below (g := g) (ob := ob) f3)
      have TB3 := Lib.hid ((TB.out.low (T2.out.low HH.out)).low (f3.mono R2.out.low))
      have G3 := Lib.hid (KD.out.gc.low (f3.mono R2.out.low))
      have B3 := Lib.hid (B2.out.below f3 B2.out.lt)
      have Y3 := Lib.hid (Y2.out.below f3 Y2.out.lt)
      clear f3
      go_upto_region 5 with fail
      clear c0 c1' c2' c3'
      generalize wr.alloc (.cells #[.int .i64 kop, .int .i64 kN, .string knm, .slice kA kl kc] 40) = W3 at *
      have e0 : W3.cell? ⟨wr.heap.size, 0, none⟩ = some (.int .i64 kop) := E3.out.cell 0
      have e1 : W3.cell? ⟨wr.heap.size, 1, none⟩ = some (.int .i64 kN) := E3.out.cell 1
      have e2 : W3.cell? ⟨wr.heap.size, 2, none⟩ = some (.string knm) := E3.out.cell 2
      have e3 : W3.cell? ⟨wr.heap.size, 3, none⟩ = some (.slice kA kl kc) := E3.out.cell 3
      have TX := Lib.hid (text_any base kn g room ob l bf kop kN knm kA kl kc x W3 TB3.out R3.out G3.out KF.out)
      go_wp2_with fail
      refine TX.out.mono ?_
      rintro e w4 ⟨s4, b4, rfl, t4, r4, o4⟩
      have FX4 : Far wr g ob w.heap.size := ⟨FX1.out.1, FX1.out.2.1, B2.out.lt⟩
      have FY4 : Far wr g ob W0.heap.size := ⟨FY1.out.1, FY1.out.2.1, Y2.out.lt⟩
      have T4 := Lib.hid (T3.out.trans t4)
      have B4 := Lib.hid (FX4.blk T4.out B2.out)
      have Y4 := Lib.hid (FY4.blk T4.out Y2.out)
      have R4 := Lib.hid r4
      have O4 := Lib.hid o4
      clear t4 r4 o4 e0 e1 e2 e3 TX R3 E3 T3 TB3 G3 B3 Y3
      have hkk : k = 0 ∨ k = 1 := by omega
      have y4 : ∃ v, w4.cell? ⟨W0.heap.size, k, none⟩ = some v := by
        rcases hkk with rfl | rfl
        · exact ⟨_, Y4.out.cell 0⟩
        · exact ⟨_, Y4.out.cell 1⟩
      obtain ⟨v4, y4⟩ := y4
      have z4 : w4.frozen? ⟨W0.heap.size, k, none⟩ = false := Y4.out.frozen k
      go_wp2_with fail
      have KS := (Kept.refl (fun z => z = W0.heap.size) w4).setCell (p := ⟨W0.heap.size, k, none⟩) (fun _ => rfl) (.string (str s4))
      have NX : Hid (TxI base w g ob room l w.heap.size W0.heap.size #[.int .i64 kind, .string NM, .slice (some ⟨b0, o0, none⟩) l1 c1, .int .i64 lo, .int .i64 hi, .slice A2 l2 c2, .slice A3 l3 c3] E (k + 1) (w4.setCell ⟨W0.heap.size, k, none⟩ (.string (str s4)))) := by
        have hlow := HH.out.low
        refine ⟨b4, T ++ [s4], ⟨?_, .inl rfl⟩, R4.out.kept KS (fun e => FY4.1 e.symm) (fun z e e' => FY4.2.1 (e'.symm ▸ e)), B4.out.kept KS (fun e => by have := HXY.out; omega), ?_, by rw [List.length_append, HTL.out]; rfl, ?_, ?_, ?_⟩
        · exact (T2.out.trans T4.out).1.then_ KS (fun z hz e => by have := HXY.out; omega)
        · have ht := HTL.out
          rcases hkk with rfl | rfl
          · obtain rfl := List.eq_nil_of_length_eq_zero ht
            exact Y4.out.put_ 0 _ rfl
          · obtain ⟨a, rfl⟩ := List.length_eq_one_iff.1 ht
            exact Y4.out.put_ 1 _ rfl
        · intro t ht
          rcases List.mem_append.1 ht with ht | ht
          · exact HTR.out t ht
          · obtain rfl := List.mem_singleton.1 ht
            exact O4.out.len
        · intro e
          obtain ⟨e0, t, ht, hs⟩ := O4.out.good e
          rw [List.nil_append] at hs
          rw [HX.out]
          exact rawEs_snoc (HGD.out e0) (hs ▸ ht)
        · intro e
          rcases O4.out.ill e with e0 | e0 | ⟨t, e0, e1⟩
          · exact HIL.out e0
          · exact ⟨x, HM.out, .inl e0⟩
          · exact ⟨x, HM.out, .inr ⟨t, e0, by simpa using e1⟩⟩
      clear KS FX4 FY4
      go_roundw
      case rel => exact ⟨k + 1, by omega, by go_num, NX⟩
      case measure => simp [intOf]; omega
    · obtain rfl : k = l1 := by omega
      have HGD' : Hid (bf = false → rawEs E = some T) := fun e => by
        have := HGD.out e
        rwa [List.take_of_length_le (by have := HL1.out; omega)] at this
      obtain ⟨S0, hS0⟩ : ∃ s, s = str (T.getD 0 []) := ⟨_, rfl⟩
      obtain ⟨S1, hS1⟩ : ∃ s, s = str (T.getD 1 []) := ⟨_, rfl⟩
      have hz0 : S0.data.size ≤ 1073741824 := by rw [hS0]; exact Nat.le_trans (by simpa [str] using getD_len HTR.out 0) hr2
      have hz1 : S1.data.size ≤ 1073741824 := by rw [hS1]; exact Nat.le_trans (by simpa [str] using getD_len HTR.out 1) hr2
      have hzn : NM.data.size ≤ 1000000 := by rw [HN.out]; simpa [str] using HFt.out.1
      have hz0' : S0.size ≤ 1073741824 := hz0
      have hz1' : S1.size ≤ 1073741824 := hz1
      have hzn' : NM.size ≤ 1000000 := hzn
      have HS0 : Hid (S0.data.toList = T.getD 0 []) := by rw [hS0]; exact str_list _
      have HS1 : Hid (S1.data.toList = T.getD 1 []) := by rw [hS1]; exact str_list _
      have HNM : Hid (NM.data.toList = nm) := by rw [HN.out]; exact str_list _
      rw [← hS0, ← hS1] at Y2
      have hZ0 := Lib.hid hS0
      clear hS0 hS1 hZ0 HGD HTR HTL
      have FX := Lib.hid (show Far wr g ob w.heap.size from ⟨FX1.out.1, FX1.out.2.1, B2.out.lt⟩)
      have FY := Lib.hid (show Far wr g ob W0.heap.size from ⟨FY1.out.1, FY1.out.2.1, Y2.out.lt⟩)
      have TBr := Lib.hid (TB.out.low (T2.out.low HH.out))
      have TPr := Lib.hid (TP.out.low (T2.out.low HH.out))
      clear FX1 FY1 X1 Y1 H1 T1
      have s0 : wr.cell? ⟨w.heap.size, 0, none⟩ = some (.int .i64 kind) := B2.out.cell 0
      have s1 : wr.cell? ⟨w.heap.size, 1, none⟩ = some (.string NM) := B2.out.cell 1
      have y0 : wr.cell? ⟨W0.heap.size, 0, none⟩ = some (.string S0) := Y2.out.cell 0
      have y1 : wr.cell? ⟨W0.heap.size, 1, none⟩ = some (.string S1) := Y2.out.cell 1
      have hkc : kind = 0 ∨ kind = 1 ∨ kind = 2 ∨ kind = 3 ∨ kind = 4 ∨ kind = 5 ∨ kind = 6 ∨ kind = 7 ∨ kind = 8 ∨ kind = 9 := by omega
      have HKR := Lib.hid (⟨hk0, hk10, HLen.out⟩ : 0 ≤ kind ∧ kind < 10 ∧ E.length = partsS kind)
      clear hk0 hk10 HLen
      rcases hkc with rfl | rfl | rfl | rfl | rfl | rfl | rfl | rfl | rfl | rfl
      · have f11 : Below wr.heap.size wr (wr.alloc (.cells #[.string NM, .string ⟨#[61]⟩, .string S0] 9)) := (Below.refl _ _).al _
        have R11 := Lib.hid (rv_new3 wr NM ⟨#[61]⟩ S0)
        have H11 := Lib.hid ((R2.out).below f11)
        have A11 := Lib.hid (Turns.of_below (g := g) (ob := ob) f11)
        clear f11
        go_wp2_with fail
        refine (line_any base g room deep ob l bf _ 3 3 [NM, ⟨#[61]⟩, S0] _ H11.out (by omega) R11.out (by omega) (by omega) (by omega) (join_le (by simp only [List.map_cons, List.map_nil, List.sum_cons, List.sum_nil, List.size_toArray, List.length_cons, List.length_nil]; omega))).mono ?_
        rintro e w11 ⟨rfl, ob11, l11, b11, t11, r11, o11⟩
        have T11' := Lib.hid ((T2.out).trans (A11.out.trans t11))
        have FX11 := Lib.hid ((FX.out).turn (A11.out.trans t11))
        have FY11 := Lib.hid ((FY.out).turn (A11.out.trans t11))
        have B11 := Lib.hid ((FX.out).blk (A11.out.trans t11) (B2.out))
        have Y11 := Lib.hid ((FY.out).blk (A11.out.trans t11) (Y2.out))
        have TB11 := Lib.hid ((TBr.out).low ((A11.out.trans t11).low R2.out))
        have TP11 := Lib.hid ((TPr.out).low ((A11.out.trans t11).low R2.out))
        have HR11 := Lib.hid r11
        have HO11 := Lib.hid o11
        clear t11 r11 o11
        go_wp2_with fail
        go_end0
        refine ⟨rfl, ob11, l11, b11, T11'.out, HR11.out, WOut.stmt HGD'.out HIL.out (fun hT => ?_) (HO11.out)⟩
        rw [rawS_of HKR.out hT]
        have a_HNM := HNM.out
        have a_HS0 := HS0.out
        simp [stmtO, a_HNM, a_HS0]
      · have f11 : Below wr.heap.size wr (wr.alloc (.cells #[.string NM, .string ⟨#[91]⟩, .string S0, .string ⟨#[93, 32, 61]⟩, .string S1] 9)) := (Below.refl _ _).al _
        have R11 := Lib.hid (rv_new5 wr NM ⟨#[91]⟩ S0 ⟨#[93, 32, 61]⟩ S1)
        have H11 := Lib.hid ((R2.out).below f11)
        have A11 := Lib.hid (Turns.of_below (g := g) (ob := ob) f11)
        clear f11
        go_wp2_with fail
        refine (line_any base g room deep ob l bf _ 5 5 [NM, ⟨#[91]⟩, S0, ⟨#[93, 32, 61]⟩, S1] _ H11.out (by omega) R11.out (by omega) (by omega) (by omega) (join_le (by simp only [List.map_cons, List.map_nil, List.sum_cons, List.sum_nil, List.size_toArray, List.length_cons, List.length_nil]; omega))).mono ?_
        rintro e w11 ⟨rfl, ob11, l11, b11, t11, r11, o11⟩
        have T11' := Lib.hid ((T2.out).trans (A11.out.trans t11))
        have FX11 := Lib.hid ((FX.out).turn (A11.out.trans t11))
        have FY11 := Lib.hid ((FY.out).turn (A11.out.trans t11))
        have B11 := Lib.hid ((FX.out).blk (A11.out.trans t11) (B2.out))
        have Y11 := Lib.hid ((FY.out).blk (A11.out.trans t11) (Y2.out))
        have TB11 := Lib.hid ((TBr.out).low ((A11.out.trans t11).low R2.out))
        have TP11 := Lib.hid ((TPr.out).low ((A11.out.trans t11).low R2.out))
        have HR11 := Lib.hid r11
        have HO11 := Lib.hid o11
        clear t11 r11 o11
        go_wp2_with fail
        go_end0
        refine ⟨rfl, ob11, l11, b11, T11'.out, HR11.out, WOut.stmt HGD'.out HIL.out (fun hT => ?_) (HO11.out)⟩
        rw [rawS_of HKR.out hT]
        have a_HNM := HNM.out
        have a_HS0 := HS0.out
        have a_HS1 := HS1.out
        simp [stmtO, a_HNM, a_HS0, a_HS1]
      · have f11 : Below wr.heap.size wr (wr.alloc (.cells #[.string ⟨#[105, 102]⟩, .string S0, .string ⟨#[116, 104, 101, 110]⟩] 9)) := (Below.refl _ _).al _
        have R11 := Lib.hid (rv_new3 wr ⟨#[105, 102]⟩ S0 ⟨#[116, 104, 101, 110]⟩)
        have H11 := Lib.hid ((R2.out).below f11)
        have A11 := Lib.hid (Turns.of_below (g := g) (ob := ob) f11)
        clear f11
        go_wp2_with fail
        refine (line_any base g room deep ob l bf _ 3 3 [⟨#[105, 102]⟩, S0, ⟨#[116, 104, 101, 110]⟩] _ H11.out (by omega) R11.out (by omega) (by omega) (by omega) (join_le (by simp only [List.map_cons, List.map_nil, List.sum_cons, List.sum_nil, List.size_toArray, List.length_cons, List.length_nil]; omega))).mono ?_
        rintro e w11 ⟨rfl, ob11, l11, b11, t11, r11, o11⟩
        have T11' := Lib.hid ((T2.out).trans (A11.out.trans t11))
        have FX11 := Lib.hid ((FX.out).turn (A11.out.trans t11))
        have FY11 := Lib.hid ((FY.out).turn (A11.out.trans t11))
        have B11 := Lib.hid ((FX.out).blk (A11.out.trans t11) (B2.out))
        have Y11 := Lib.hid ((FY.out).blk (A11.out.trans t11) (Y2.out))
        have TB11 := Lib.hid ((TBr.out).low ((A11.out.trans t11).low R2.out))
        have TP11 := Lib.hid ((TPr.out).low ((A11.out.trans t11).low R2.out))
        have HR11 := Lib.hid r11
        have HO11 := Lib.hid o11
        clear t11 r11 o11
        have s5 : w11.cell? ⟨w.heap.size, 5, none⟩ = some (.slice A2 l2 c2) := (B11.out).cell 5
        have e12 : IntKind.i64.wrap ((deep : Int) + 1) = ((deep + 1 : Nat) : Int) := by rw [IntKind.wrap_i64]; omega
        have BK := Lib.hid (HBk.out g room (deep + 1) ob11 l11 b11 A2 l2 c2 L w11 TB11.out TP11.out (HR11.out) ((HL.out).low_ ((T11'.out).low HH.out)) (by omega))
        go_wp2_with fail
        refine BK.out.mono ?_
        rintro e w12 ⟨rfl, ob12, l12, b12, t12, r12, o12⟩
        clear BK e12
        have T12' := Lib.hid ((T11'.out).trans (t12))
        have FX12 := Lib.hid ((FX11.out).turn (t12))
        have FY12 := Lib.hid ((FY11.out).turn (t12))
        have B12 := Lib.hid ((FX11.out).blk (t12) (B11.out))
        have Y12 := Lib.hid ((FY11.out).blk (t12) (Y11.out))
        have TB12 := Lib.hid ((TB11.out).low ((t12).low HR11.out))
        have TP12 := Lib.hid ((TP11.out).low ((t12).low HR11.out))
        have HR12 := Lib.hid r12
        have HO12 := Lib.hid ((HO11.out).then_ o12)
        clear t12 r12 o12
        have hl3 : El.length = l3 := by obtain ⟨_, _, _, _, h, _⟩ := HEl.out; exact h
        have HL3 := Lib.hid hl3
        clear hl3
        have s6 : w12.cell? ⟨w.heap.size, 6, none⟩ = some (.slice A3 l3 c3) := (B12.out).cell 6
        by_cases hp3 : 0 < l3
        · have z3 : (0 : Int) < (l3 : Int) := by omega
          have f13 : Below w12.heap.size w12 (w12.alloc (.cells #[.string ⟨#[101, 108, 115, 101]⟩] 9)) := (Below.refl _ _).al _
          have R13 := Lib.hid (rv_new1 w12 ⟨#[101, 108, 115, 101]⟩)
          have H13 := Lib.hid ((HR12.out).below f13)
          have A13 := Lib.hid (Turns.of_below (g := g) (ob := ob12) f13)
          clear f13
          go_wp2_with fail
          refine (line_any base g room deep ob12 l12 b12 _ 1 1 [⟨#[101, 108, 115, 101]⟩] _ H13.out (by omega) R13.out (by omega) (by omega) (by omega) (join_le (by simp only [List.map_cons, List.map_nil, List.sum_cons, List.sum_nil, List.size_toArray, List.length_cons, List.length_nil]; omega))).mono ?_
          rintro e w13 ⟨rfl, ob13, l13, b13, t13, r13, o13⟩
          have T13' := Lib.hid ((T12'.out).trans (A13.out.trans t13))
          have FX13 := Lib.hid ((FX12.out).turn (A13.out.trans t13))
          have FY13 := Lib.hid ((FY12.out).turn (A13.out.trans t13))
          have B13 := Lib.hid ((FX12.out).blk (A13.out.trans t13) (B12.out))
          have Y13 := Lib.hid ((FY12.out).blk (A13.out.trans t13) (Y12.out))
          have TB13 := Lib.hid ((TB12.out).low ((A13.out.trans t13).low HR12.out))
          have TP13 := Lib.hid ((TP12.out).low ((A13.out.trans t13).low HR12.out))
          have HR13 := Lib.hid r13
          have HO13 := Lib.hid ((HO12.out).then_ o13)
          clear t13 r13 o13
          have s6 : w13.cell? ⟨w.heap.size, 6, none⟩ = some (.slice A3 l3 c3) := (B13.out).cell 6
          have e14 : IntKind.i64.wrap ((deep : Int) + 1) = ((deep + 1 : Nat) : Int) := by rw [IntKind.wrap_i64]; omega
          have BK := Lib.hid (HBk.out g room (deep + 1) ob13 l13 b13 A3 l3 c3 El w13 TB13.out TP13.out (HR13.out) ((HEl.out).low_ ((T13'.out).low HH.out)) (by omega))
          go_wp2_with fail
          refine BK.out.mono ?_
          rintro e w14 ⟨rfl, ob14, l14, b14, t14, r14, o14⟩
          clear BK e14
          have T14' := Lib.hid ((T13'.out).trans (t14))
          have FX14 := Lib.hid ((FX13.out).turn (t14))
          have FY14 := Lib.hid ((FY13.out).turn (t14))
          have B14 := Lib.hid ((FX13.out).blk (t14) (B13.out))
          have Y14 := Lib.hid ((FY13.out).blk (t14) (Y13.out))
          have TB14 := Lib.hid ((TB13.out).low ((t14).low HR13.out))
          have TP14 := Lib.hid ((TP13.out).low ((t14).low HR13.out))
          have HR14 := Lib.hid r14
          have HO14 := Lib.hid ((HO13.out).then_ o14)
          clear t14 r14 o14
          have f15 : Below w14.heap.size w14 (w14.alloc (.cells #[.string ⟨#[101, 110, 100]⟩] 9)) := (Below.refl _ _).al _
          have R15 := Lib.hid (rv_new1 w14 ⟨#[101, 110, 100]⟩)
          have H15 := Lib.hid ((HR14.out).below f15)
          have A15 := Lib.hid (Turns.of_below (g := g) (ob := ob14) f15)
          clear f15
          go_wp2_with fail
          refine (line_any base g room deep ob14 l14 b14 _ 1 1 [⟨#[101, 110, 100]⟩] _ H15.out (by omega) R15.out (by omega) (by omega) (by omega) (join_le (by simp only [List.map_cons, List.map_nil, List.sum_cons, List.sum_nil, List.size_toArray, List.length_cons, List.length_nil]; omega))).mono ?_
          rintro e w15 ⟨rfl, ob15, l15, b15, t15, r15, o15⟩
          have T15' := Lib.hid ((T14'.out).trans (A15.out.trans t15))
          have FX15 := Lib.hid ((FX14.out).turn (A15.out.trans t15))
          have FY15 := Lib.hid ((FY14.out).turn (A15.out.trans t15))
          have B15 := Lib.hid ((FX14.out).blk (A15.out.trans t15) (B14.out))
          have Y15 := Lib.hid ((FY14.out).blk (A15.out.trans t15) (Y14.out))
          have TB15 := Lib.hid ((TB14.out).low ((A15.out.trans t15).low HR14.out))
          have TP15 := Lib.hid ((TP14.out).low ((A15.out.trans t15).low HR14.out))
          have HR15 := Lib.hid r15
          have HO15 := Lib.hid ((HO14.out).then_ o15)
          clear t15 r15 o15
          have hne : ¬ El.length = 0 := by have := HL3.out; omega
          go_wp2_with fail
          go_end0
          refine ⟨rfl, ob15, l15, b15, T15'.out, HR15.out, WOut.stmt HGD'.out HIL.out (fun hT => ?_) (HO15.out)⟩
          rw [rawS_of HKR.out hT]
          have a_HS0 := HS0.out
          simp [stmtO, a_HS0, hne, ocat_assoc]
        · have z3 : ¬ (0 : Int) < (l3 : Int) := by omega
          have f13 : Below w12.heap.size w12 (w12.alloc (.cells #[.string ⟨#[101, 110, 100]⟩] 9)) := (Below.refl _ _).al _
          have R13 := Lib.hid (rv_new1 w12 ⟨#[101, 110, 100]⟩)
          have H13 := Lib.hid ((HR12.out).below f13)
          have A13 := Lib.hid (Turns.of_below (g := g) (ob := ob12) f13)
          clear f13
          go_wp2_with fail
          refine (line_any base g room deep ob12 l12 b12 _ 1 1 [⟨#[101, 110, 100]⟩] _ H13.out (by omega) R13.out (by omega) (by omega) (by omega) (join_le (by simp only [List.map_cons, List.map_nil, List.sum_cons, List.sum_nil, List.size_toArray, List.length_cons, List.length_nil]; omega))).mono ?_
          rintro e w13 ⟨rfl, ob13, l13, b13, t13, r13, o13⟩
          have T13' := Lib.hid ((T12'.out).trans (A13.out.trans t13))
          have FX13 := Lib.hid ((FX12.out).turn (A13.out.trans t13))
          have FY13 := Lib.hid ((FY12.out).turn (A13.out.trans t13))
          have B13 := Lib.hid ((FX12.out).blk (A13.out.trans t13) (B12.out))
          have Y13 := Lib.hid ((FY12.out).blk (A13.out.trans t13) (Y12.out))
          have TB13 := Lib.hid ((TB12.out).low ((A13.out.trans t13).low HR12.out))
          have TP13 := Lib.hid ((TP12.out).low ((A13.out.trans t13).low HR12.out))
          have HR13 := Lib.hid r13
          have HO13 := Lib.hid ((HO12.out).then_ o13)
          clear t13 r13 o13
          have hne : El = [] := List.eq_nil_of_length_eq_zero (by have := HL3.out; omega)
          go_wp2_with fail
          go_end0
          refine ⟨rfl, ob13, l13, b13, T13'.out, HR13.out, WOut.stmt HGD'.out HIL.out (fun hT => ?_) (HO13.out)⟩
          rw [rawS_of HKR.out hT]
          have a_HS0 := HS0.out
          simp [stmtO, a_HS0, hne, ocat_assoc, nil_ocat]
      · have s3 : wr.cell? ⟨w.heap.size, 3, none⟩ = some (.int .i64 lo) := (B2.out).cell 3
        have s4 : wr.cell? ⟨w.heap.size, 4, none⟩ = some (.int .i64 hi) := (B2.out).cell 4
        obtain ⟨SL, hSL⟩ : ∃ x, x = str (Lib.itoa lo) := ⟨_, rfl⟩
        have zSL : SL.data.size ≤ 21 := by rw [hSL]; simpa [str] using itoa_len HFt.out.2.1
        have HSL : Hid (SL.data.toList = Lib.itoa lo) := by rw [hSL]; exact str_list _
        have ISL : Hid (∀ W, Below wr.heap.size wr W → Calls Tryz.prog 66 #[.int .i64 lo] W fun e w' => e = .returned (.string SL) ∧ Below W.heap.size W w') := fun W hW => by rw [hSL]; exact itoa_any base lo W ((TBr.out).low (hW.mono (R2.out).low)) HFt.out.2.1
        clear hSL
        obtain ⟨SH, hSH⟩ : ∃ x, x = str (Lib.itoa hi) := ⟨_, rfl⟩
        have zSH : SH.data.size ≤ 21 := by rw [hSH]; simpa [str] using itoa_len HFt.out.2.2
        have HSH : Hid (SH.data.toList = Lib.itoa hi) := by rw [hSH]; exact str_list _
        have ISH : Hid (∀ W, Below wr.heap.size wr W → Calls Tryz.prog 66 #[.int .i64 hi] W fun e w' => e = .returned (.string SH) ∧ Below W.heap.size W w') := fun W hW => by rw [hSH]; exact itoa_any base hi W ((TBr.out).low (hW.mono (R2.out).low)) HFt.out.2.2
        clear hSH
        go_upto_region 20 with fail
        have FB : Hid (∀ W, Below wr.heap.size wr W → W.cell? ⟨w.heap.size, 1, none⟩ = some (.string NM) ∧ W.cell? ⟨w.heap.size, 3, none⟩ = some (.int .i64 lo) ∧ W.cell? ⟨w.heap.size, 4, none⟩ = some (.int .i64 hi)) := fun W hW => ⟨((B2.out).below hW (B2.out).lt).cell 1, ((B2.out).below hW (B2.out).lt).cell 3, ((B2.out).below hW (B2.out).lt).cell 4⟩
        have LN : Hid (∀ W, Below wr.heap.size wr W → Calls Tryz.prog 65 #[.pointer (some ⟨g, 0, none⟩), .int .i64 deep, .slice (some ⟨W.heap.size, 0, none⟩) 5 5] (W.alloc (.cells #[.string ⟨#[102, 111, 114]⟩, .string NM, .string SL, .string SH, .string ⟨#[100, 111]⟩] 9)) (WroteE base (W.alloc (.cells #[.string ⟨#[102, 111, 114]⟩, .string NM, .string SL, .string SH, .string ⟨#[100, 111]⟩] 9)) g ob room l bf (some (lineB deep ([⟨#[102, 111, 114]⟩, NM, SL, SH, ⟨#[100, 111]⟩].map (·.data.toList)))))) := fun W hW =>
          line_any base g room deep ob l bf _ 5 5 [⟨#[102, 111, 114]⟩, NM, SL, SH, ⟨#[100, 111]⟩] _ (((R2.out).below hW).al _) (by omega) (rv_new5 W ⟨#[102, 111, 114]⟩ NM SL SH ⟨#[100, 111]⟩) (by omega) (by omega) (by omega) (join_le (by simp only [List.map_cons, List.map_nil, List.sum_cons, List.sum_nil, List.size_toArray, List.length_cons, List.length_nil]; omega))
        have FT : Hid (∀ W w' ob', Below wr.heap.size wr W → Turns (W.alloc (.cells #[.string ⟨#[102, 111, 114]⟩, .string NM, .string SL, .string SH, .string ⟨#[100, 111]⟩] 9)) g ob w' ob' → w'.cell? ⟨w.heap.size, 1, none⟩ = some (.string NM) ∧ w'.cell? ⟨w.heap.size, 3, none⟩ = some (.int .i64 lo) ∧ w'.cell? ⟨w.heap.size, 4, none⟩ = some (.int .i64 hi)) := fun W w' ob' hW ht => ⟨(((FX.out).below (hW.al _)).blk ht ((B2.out).below (hW.al _) (B2.out).lt)).cell 1, (((FX.out).below (hW.al _)).blk ht ((B2.out).below (hW.al _) (B2.out).lt)).cell 3, (((FX.out).below (hW.al _)).blk ht ((B2.out).below (hW.al _) (B2.out).lt)).cell 4⟩
        have bb0 := Lib.hid ((Below.refl wr.heap.size wr).drew)
        have q0 := FB.out _ bb0.out
        go_region_held3 (fun W => W.cell? ⟨w.heap.size, 1, none⟩ = some (.string NM) ∧ W.cell? ⟨w.heap.size, 3, none⟩ = some (.int .i64 lo) ∧ W.cell? ⟨w.heap.size, 4, none⟩ = some (.int .i64 hi))
          (first | exact qd | exact qc _ | exact q2 | exact q1 | exact q0)
          (first
            | (go_at_call 66; (with_reducible refine (ISL.out _ bb0.out).mono ?_); rintro e wa1 ⟨rfl, ba1⟩; have bb1 := Lib.hid (bb0.out.trans (ba1.mono bb0.out.size)); have q1 := FB.out _ bb1.out; clear ba1)
            | (go_at_call 66; (with_reducible refine (ISH.out _ bb1.out).mono ?_); rintro e wa2 ⟨rfl, ba2⟩; have bb2 := Lib.hid (bb1.out.trans (ba2.mono bb1.out.size)); have q2 := FB.out _ bb2.out; clear ba2; have qc := fun o => FB.out _ (bb2.out.al o))
            | (go_at_call 65; (with_reducible refine (LN.out wa2 bb2.out).mono ?_); rintro e w11 ⟨rfl, ob11, l11, b11, t11, r11, o11⟩; have qd := FT.out wa2 w11 ob11 bb2.out t11; have TT11 := Lib.hid t11; have RR11 := Lib.hid r11; have OO11 := Lib.hid o11; clear t11 r11 o11))
        have t11 := TT11.out
        have r11 := RR11.out
        have o11 := OO11.out
        have A11 : Turns wr g ob (wa2.alloc (.cells #[.string ⟨#[102, 111, 114]⟩, .string NM, .string SL, .string SH, .string ⟨#[100, 111]⟩] 9)) ob := Turns.of_below (bb2.out.al _)
        have T11' := Lib.hid ((T2.out).trans (A11.trans t11))
        have FX11 := Lib.hid ((FX.out).turn (A11.trans t11))
        have FY11 := Lib.hid ((FY.out).turn (A11.trans t11))
        have B11 := Lib.hid ((FX.out).blk (A11.trans t11) (B2.out))
        have Y11 := Lib.hid ((FY.out).blk (A11.trans t11) (Y2.out))
        have TB11 := Lib.hid ((TBr.out).low ((A11.trans t11).low R2.out))
        have TP11 := Lib.hid ((TPr.out).low ((A11.trans t11).low R2.out))
        have HR11 := Lib.hid r11
        have HO11 := Lib.hid o11
        clear t11 r11 o11
        have s5 : w11.cell? ⟨w.heap.size, 5, none⟩ = some (.slice A2 l2 c2) := (B11.out).cell 5
        have e12 : IntKind.i64.wrap ((deep : Int) + 1) = ((deep + 1 : Nat) : Int) := by rw [IntKind.wrap_i64]; omega
        have BK := Lib.hid (HBk.out g room (deep + 1) ob11 l11 b11 A2 l2 c2 L w11 TB11.out TP11.out (HR11.out) ((HL.out).low_ ((T11'.out).low HH.out)) (by omega))
        go_wp2_with fail
        refine BK.out.mono ?_
        rintro e w12 ⟨rfl, ob12, l12, b12, t12, r12, o12⟩
        clear BK e12
        have T12' := Lib.hid ((T11'.out).trans (t12))
        have FX12 := Lib.hid ((FX11.out).turn (t12))
        have FY12 := Lib.hid ((FY11.out).turn (t12))
        have B12 := Lib.hid ((FX11.out).blk (t12) (B11.out))
        have Y12 := Lib.hid ((FY11.out).blk (t12) (Y11.out))
        have TB12 := Lib.hid ((TB11.out).low ((t12).low HR11.out))
        have TP12 := Lib.hid ((TP11.out).low ((t12).low HR11.out))
        have HR12 := Lib.hid r12
        have HO12 := Lib.hid ((HO11.out).then_ o12)
        clear t12 r12 o12
        have f13 : Below w12.heap.size w12 (w12.alloc (.cells #[.string ⟨#[101, 110, 100]⟩] 9)) := (Below.refl _ _).al _
        have R13 := Lib.hid (rv_new1 w12 ⟨#[101, 110, 100]⟩)
        have H13 := Lib.hid ((HR12.out).below f13)
        have A13 := Lib.hid (Turns.of_below (g := g) (ob := ob12) f13)
        clear f13
        go_wp2_with fail
        refine (line_any base g room deep ob12 l12 b12 _ 1 1 [⟨#[101, 110, 100]⟩] _ H13.out (by omega) R13.out (by omega) (by omega) (by omega) (join_le (by simp only [List.map_cons, List.map_nil, List.sum_cons, List.sum_nil, List.size_toArray, List.length_cons, List.length_nil]; omega))).mono ?_
        rintro e w13 ⟨rfl, ob13, l13, b13, t13, r13, o13⟩
        have T13' := Lib.hid ((T12'.out).trans (A13.out.trans t13))
        have FX13 := Lib.hid ((FX12.out).turn (A13.out.trans t13))
        have FY13 := Lib.hid ((FY12.out).turn (A13.out.trans t13))
        have B13 := Lib.hid ((FX12.out).blk (A13.out.trans t13) (B12.out))
        have Y13 := Lib.hid ((FY12.out).blk (A13.out.trans t13) (Y12.out))
        have TB13 := Lib.hid ((TB12.out).low ((A13.out.trans t13).low HR12.out))
        have TP13 := Lib.hid ((TP12.out).low ((A13.out.trans t13).low HR12.out))
        have HR13 := Lib.hid r13
        have HO13 := Lib.hid ((HO12.out).then_ o13)
        clear t13 r13 o13
        go_wp2_with fail
        go_end0
        refine ⟨rfl, ob13, l13, b13, T13'.out, HR13.out, WOut.stmt HGD'.out HIL.out (fun hT => ?_) (HO13.out)⟩
        rw [rawS_of HKR.out hT]
        have a_HNM := HNM.out
        have a_HSL := HSL.out
        have a_HSH := HSH.out
        simp [stmtO, a_HNM, a_HSL, a_HSH, ocat_assoc]
      · have f11 : Below wr.heap.size wr (wr.alloc (.cells #[.string ⟨#[114, 101, 102, 117, 115, 101]⟩] 9)) := (Below.refl _ _).al _
        have R11 := Lib.hid (rv_new1 wr ⟨#[114, 101, 102, 117, 115, 101]⟩)
        have H11 := Lib.hid ((R2.out).below f11)
        have A11 := Lib.hid (Turns.of_below (g := g) (ob := ob) f11)
        clear f11
        go_wp2_with fail
        refine (line_any base g room deep ob l bf _ 1 1 [⟨#[114, 101, 102, 117, 115, 101]⟩] _ H11.out (by omega) R11.out (by omega) (by omega) (by omega) (join_le (by simp only [List.map_cons, List.map_nil, List.sum_cons, List.sum_nil, List.size_toArray, List.length_cons, List.length_nil]; omega))).mono ?_
        rintro e w11 ⟨rfl, ob11, l11, b11, t11, r11, o11⟩
        have T11' := Lib.hid ((T2.out).trans (A11.out.trans t11))
        have FX11 := Lib.hid ((FX.out).turn (A11.out.trans t11))
        have FY11 := Lib.hid ((FY.out).turn (A11.out.trans t11))
        have B11 := Lib.hid ((FX.out).blk (A11.out.trans t11) (B2.out))
        have Y11 := Lib.hid ((FY.out).blk (A11.out.trans t11) (Y2.out))
        have TB11 := Lib.hid ((TBr.out).low ((A11.out.trans t11).low R2.out))
        have TP11 := Lib.hid ((TPr.out).low ((A11.out.trans t11).low R2.out))
        have HR11 := Lib.hid r11
        have HO11 := Lib.hid o11
        clear t11 r11 o11
        go_wp2_with fail
        go_end0
        refine ⟨rfl, ob11, l11, b11, T11'.out, HR11.out, WOut.stmt HGD'.out HIL.out (fun hT => ?_) (HO11.out)⟩
        rw [rawS_of HKR.out hT]
        simp [stmtO]
      · obtain ⟨SL, hSL⟩ : ∃ x, x = str (Lib.itoa lo) := ⟨_, rfl⟩
        have zSL : SL.data.size ≤ 21 := by rw [hSL]; simpa [str] using itoa_len HFt.out.2.1
        have HSL : Hid (SL.data.toList = Lib.itoa lo) := by rw [hSL]; exact str_list _
        have ISL : Hid (∀ W, Below wr.heap.size wr W → Calls Tryz.prog 66 #[.int .i64 lo] W fun e w' => e = .returned (.string SL) ∧ Below W.heap.size W w') := fun W hW => by rw [hSL]; exact itoa_any base lo W ((TBr.out).low (hW.mono (R2.out).low)) HFt.out.2.1
        clear hSL
        go_upto_region 28 with fail
        have FB : Hid (∀ W, Below wr.heap.size wr W → W.cell? ⟨w.heap.size, 1, none⟩ = some (.string NM) ∧ W.cell? ⟨w.heap.size, 3, none⟩ = some (.int .i64 lo)) := fun W hW => ⟨((B2.out).below hW (B2.out).lt).cell 1, ((B2.out).below hW (B2.out).lt).cell 3⟩
        have LN : Hid (∀ W, Below wr.heap.size wr W → Calls Tryz.prog 65 #[.pointer (some ⟨g, 0, none⟩), .int .i64 deep, .slice (some ⟨W.heap.size, 0, none⟩) 3 3] (W.alloc (.cells #[.string ⟨#[114, 111, 108, 108]⟩, .string NM, .string SL] 9)) (WroteE base (W.alloc (.cells #[.string ⟨#[114, 111, 108, 108]⟩, .string NM, .string SL] 9)) g ob room l bf (some (lineB deep ([⟨#[114, 111, 108, 108]⟩, NM, SL].map (·.data.toList)))))) := fun W hW =>
          line_any base g room deep ob l bf _ 3 3 [⟨#[114, 111, 108, 108]⟩, NM, SL] _ (((R2.out).below hW).al _) (by omega) (rv_new3 W ⟨#[114, 111, 108, 108]⟩ NM SL) (by omega) (by omega) (by omega) (join_le (by simp only [List.map_cons, List.map_nil, List.sum_cons, List.sum_nil, List.size_toArray, List.length_cons, List.length_nil]; omega))
        have FT : Hid (∀ W w' ob', Below wr.heap.size wr W → Turns (W.alloc (.cells #[.string ⟨#[114, 111, 108, 108]⟩, .string NM, .string SL] 9)) g ob w' ob' → w'.cell? ⟨w.heap.size, 1, none⟩ = some (.string NM) ∧ w'.cell? ⟨w.heap.size, 3, none⟩ = some (.int .i64 lo)) := fun W w' ob' hW ht => ⟨(((FX.out).below (hW.al _)).blk ht ((B2.out).below (hW.al _) (B2.out).lt)).cell 1, (((FX.out).below (hW.al _)).blk ht ((B2.out).below (hW.al _) (B2.out).lt)).cell 3⟩
        have bb0 := Lib.hid ((Below.refl wr.heap.size wr).drew)
        have q0 := FB.out _ bb0.out
        go_region_held3 (fun W => W.cell? ⟨w.heap.size, 1, none⟩ = some (.string NM) ∧ W.cell? ⟨w.heap.size, 3, none⟩ = some (.int .i64 lo))
          (first | exact qd | exact qc _ | exact q1 | exact q0)
          (first
            | (go_at_call 66; (with_reducible refine (ISL.out _ bb0.out).mono ?_); rintro e wa1 ⟨rfl, ba1⟩; have bb1 := Lib.hid (bb0.out.trans (ba1.mono bb0.out.size)); have q1 := FB.out _ bb1.out; clear ba1; have qc := fun o => FB.out _ (bb1.out.al o))
            | (go_at_call 65; (with_reducible refine (LN.out wa1 bb1.out).mono ?_); rintro e w11 ⟨rfl, ob11, l11, b11, t11, r11, o11⟩; have qd := FT.out wa1 w11 ob11 bb1.out t11; have TT11 := Lib.hid t11; have RR11 := Lib.hid r11; have OO11 := Lib.hid o11; clear t11 r11 o11))
        have t11 := TT11.out
        have r11 := RR11.out
        have o11 := OO11.out
        have A11 : Turns wr g ob (wa1.alloc (.cells #[.string ⟨#[114, 111, 108, 108]⟩, .string NM, .string SL] 9)) ob := Turns.of_below (bb1.out.al _)
        have T11' := Lib.hid ((T2.out).trans (A11.trans t11))
        have FX11 := Lib.hid ((FX.out).turn (A11.trans t11))
        have FY11 := Lib.hid ((FY.out).turn (A11.trans t11))
        have B11 := Lib.hid ((FX.out).blk (A11.trans t11) (B2.out))
        have Y11 := Lib.hid ((FY.out).blk (A11.trans t11) (Y2.out))
        have TB11 := Lib.hid ((TBr.out).low ((A11.trans t11).low R2.out))
        have TP11 := Lib.hid ((TPr.out).low ((A11.trans t11).low R2.out))
        have HR11 := Lib.hid r11
        have HO11 := Lib.hid o11
        clear t11 r11 o11
        go_wp2_with fail
        go_end0
        refine ⟨rfl, ob11, l11, b11, T11'.out, HR11.out, WOut.stmt HGD'.out HIL.out (fun hT => ?_) (HO11.out)⟩
        rw [rawS_of HKR.out hT]
        have a_HNM := HNM.out
        have a_HSL := HSL.out
        simp [stmtO, a_HNM, a_HSL]
      · have f11 : Below wr.heap.size wr (wr.alloc (.cells #[.string ⟨#[115, 101, 97, 116]⟩, .string S0] 9)) := (Below.refl _ _).al _
        have R11 := Lib.hid (rv_new2 wr ⟨#[115, 101, 97, 116]⟩ S0)
        have H11 := Lib.hid ((R2.out).below f11)
        have A11 := Lib.hid (Turns.of_below (g := g) (ob := ob) f11)
        clear f11
        go_wp2_with fail
        refine (line_any base g room deep ob l bf _ 2 2 [⟨#[115, 101, 97, 116]⟩, S0] _ H11.out (by omega) R11.out (by omega) (by omega) (by omega) (join_le (by simp only [List.map_cons, List.map_nil, List.sum_cons, List.sum_nil, List.size_toArray, List.length_cons, List.length_nil]; omega))).mono ?_
        rintro e w11 ⟨rfl, ob11, l11, b11, t11, r11, o11⟩
        have T11' := Lib.hid ((T2.out).trans (A11.out.trans t11))
        have FX11 := Lib.hid ((FX.out).turn (A11.out.trans t11))
        have FY11 := Lib.hid ((FY.out).turn (A11.out.trans t11))
        have B11 := Lib.hid ((FX.out).blk (A11.out.trans t11) (B2.out))
        have Y11 := Lib.hid ((FY.out).blk (A11.out.trans t11) (Y2.out))
        have TB11 := Lib.hid ((TBr.out).low ((A11.out.trans t11).low R2.out))
        have TP11 := Lib.hid ((TPr.out).low ((A11.out.trans t11).low R2.out))
        have HR11 := Lib.hid r11
        have HO11 := Lib.hid o11
        clear t11 r11 o11
        go_wp2_with fail
        go_end0
        refine ⟨rfl, ob11, l11, b11, T11'.out, HR11.out, WOut.stmt HGD'.out HIL.out (fun hT => ?_) (HO11.out)⟩
        rw [rawS_of HKR.out hT]
        have a_HS0 := HS0.out
        simp [stmtO, a_HS0]
      · have f11 : Below wr.heap.size wr (wr.alloc (.cells #[.string ⟨#[111, 118, 101, 114]⟩] 9)) := (Below.refl _ _).al _
        have R11 := Lib.hid (rv_new1 wr ⟨#[111, 118, 101, 114]⟩)
        have H11 := Lib.hid ((R2.out).below f11)
        have A11 := Lib.hid (Turns.of_below (g := g) (ob := ob) f11)
        clear f11
        go_wp2_with fail
        refine (line_any base g room deep ob l bf _ 1 1 [⟨#[111, 118, 101, 114]⟩] _ H11.out (by omega) R11.out (by omega) (by omega) (by omega) (join_le (by simp only [List.map_cons, List.map_nil, List.sum_cons, List.sum_nil, List.size_toArray, List.length_cons, List.length_nil]; omega))).mono ?_
        rintro e w11 ⟨rfl, ob11, l11, b11, t11, r11, o11⟩
        have T11' := Lib.hid ((T2.out).trans (A11.out.trans t11))
        have FX11 := Lib.hid ((FX.out).turn (A11.out.trans t11))
        have FY11 := Lib.hid ((FY.out).turn (A11.out.trans t11))
        have B11 := Lib.hid ((FX.out).blk (A11.out.trans t11) (B2.out))
        have Y11 := Lib.hid ((FY.out).blk (A11.out.trans t11) (Y2.out))
        have TB11 := Lib.hid ((TBr.out).low ((A11.out.trans t11).low R2.out))
        have TP11 := Lib.hid ((TPr.out).low ((A11.out.trans t11).low R2.out))
        have HR11 := Lib.hid r11
        have HO11 := Lib.hid o11
        clear t11 r11 o11
        go_wp2_with fail
        go_end0
        refine ⟨rfl, ob11, l11, b11, T11'.out, HR11.out, WOut.stmt HGD'.out HIL.out (fun hT => ?_) (HO11.out)⟩
        rw [rawS_of HKR.out hT]
        simp [stmtO]
      · have HPX := Lib.hid (Tryz.strings_HasPrefix S1 ⟨#[45]⟩ wr)
        go_wp2_with fail
        refine HPX.out.mono ?_
        rintro e wp ⟨rfl, rfl⟩
        clear HPX
        obtain ⟨q, hq⟩ : ∃ q, q = Lib.hasPrefix S1.data.toList (⟨#[45]⟩ : ByteArray).data.toList := ⟨_, rfl⟩
        rw [← hq]
        have HQ := Lib.hid hq
        clear hq
        cases q
        · have f11 : Below wp.heap.size wp (wp.alloc (.cells #[.string ⟨#[112, 97, 121]⟩, .string S0, .string S1] 9)) := (Below.refl _ _).al _
          have R11 := Lib.hid (rv_new3 wp ⟨#[112, 97, 121]⟩ S0 S1)
          have H11 := Lib.hid ((R2.out).below f11)
          have A11 := Lib.hid (Turns.of_below (g := g) (ob := ob) f11)
          clear f11
          go_wp2_with fail
          refine (line_any base g room deep ob l bf _ 3 3 [⟨#[112, 97, 121]⟩, S0, S1] _ H11.out (by omega) R11.out (by omega) (by omega) (by omega) (join_le (by simp only [List.map_cons, List.map_nil, List.sum_cons, List.sum_nil, List.size_toArray, List.length_cons, List.length_nil]; omega))).mono ?_
          rintro e w11 ⟨rfl, ob11, l11, b11, t11, r11, o11⟩
          have T11' := Lib.hid ((T2.out).trans (A11.out.trans t11))
          have FX11 := Lib.hid ((FX.out).turn (A11.out.trans t11))
          have FY11 := Lib.hid ((FY.out).turn (A11.out.trans t11))
          have B11 := Lib.hid ((FX.out).blk (A11.out.trans t11) (B2.out))
          have Y11 := Lib.hid ((FY.out).blk (A11.out.trans t11) (Y2.out))
          have TB11 := Lib.hid ((TBr.out).low ((A11.out.trans t11).low R2.out))
          have TP11 := Lib.hid ((TPr.out).low ((A11.out.trans t11).low R2.out))
          have HR11 := Lib.hid r11
          have HO11 := Lib.hid o11
          clear t11 r11 o11
          go_wp2_with fail
          go_end0
          refine ⟨rfl, ob11, l11, b11, T11'.out, HR11.out, WOut.stmt HGD'.out HIL.out (fun hT => ?_) (HO11.out)⟩
          rw [rawS_of HKR.out hT]
          show some (lineB deep [[112, 97, 121], T.getD 0 [], payB (T.getD 1 [])]) = some (lineB deep [[112, 97, 121], S0.data.toList, S1.data.toList])
          rw [HS0.out, payB_no HS1.out HQ.out.symm]
        · have nb1 : ¬ (9223372036854775807 : Nat) < (⟨#[40, 32]⟩ : ByteArray).size + S1.size := by have : (⟨#[40, 32]⟩ : ByteArray).size = 2 := rfl; omega
          have nb2 : ¬ (9223372036854775807 : Nat) < (⟨#[40, 32]⟩ ++ S1 : ByteArray).size + (⟨#[32, 41]⟩ : ByteArray).size := by
            have e1 : (⟨#[40, 32]⟩ ++ S1 : ByteArray).size = (⟨#[40, 32]⟩ : ByteArray).size + S1.size := by simp
            have e2 : (⟨#[40, 32]⟩ : ByteArray).size = 2 := rfl
            have e3 : (⟨#[32, 41]⟩ : ByteArray).size = 2 := rfl
            omega
          have fz : wp.frozen? ⟨W0.heap.size, 1, none⟩ = false := Y2.out.frozen 1
          go_upto_region 36 with fail
          obtain ⟨S2, hS2⟩ : ∃ x : ByteArray, x = ⟨#[40, 32]⟩ ++ S1 ++ ⟨#[32, 41]⟩ := ⟨_, rfl⟩
          rw [← hS2]
          have zS2 : S2.data.size ≤ 1073741828 := by
            have e1 : S2.size = (⟨#[40, 32]⟩ : ByteArray).size + S1.size + (⟨#[32, 41]⟩ : ByteArray).size := by rw [hS2]; simp
            have e2 : (⟨#[40, 32]⟩ : ByteArray).size = 2 := rfl
            have e3 : (⟨#[32, 41]⟩ : ByteArray).size = 2 := rfl
            show S2.size ≤ _
            omega
          have HS2 : Hid (S2.data.toList = payB (T.getD 1 [])) := by
            show S2.data.toList = _
            rw [hS2, payB_yes HS1.out HQ.out.symm]
            simp
          clear hS2 nb1 nb2
          have KS := (Kept.refl (fun z => z = W0.heap.size) wp).setCell (p := ⟨W0.heap.size, 1, none⟩) (fun _ => rfl) (.string S2)
          have hlow := HH.out.low
          have H5 := Lib.hid (R2.out.kept KS (fun e => FY.out.1 e.symm) (fun z e e' => FY.out.2.1 (e'.symm ▸ e)))
          have B5 := Lib.hid (B2.out.kept KS (fun e => by have := HXY.out; omega))
          have Y5 := Lib.hid (Y2.out.put_ 1 (.string S2) rfl)
          have T5 : Hid (Turns w g ob (wp.setCell ⟨W0.heap.size, 1, none⟩ (.string S2)) ob) := ⟨T2.out.1.then_ KS (fun z hz e => by have := HXY.out; omega), .inl rfl⟩
          have FX5 := Lib.hid (show Far (wp.setCell ⟨W0.heap.size, 1, none⟩ (.string S2)) g ob w.heap.size from ⟨FX.out.1, FX.out.2.1, B5.out.lt⟩)
          have FY5 := Lib.hid (show Far (wp.setCell ⟨W0.heap.size, 1, none⟩ (.string S2)) g ob W0.heap.size from ⟨FY.out.1, FY.out.2.1, Y5.out.lt⟩)
          have KB : Below base wp (wp.setCell ⟨W0.heap.size, 1, none⟩ (.string S2)) := KS.to_below R2.out.low (fun z hz e => by have := HXY.out; omega)
          have TB5 := Lib.hid (TBr.out.low KB)
          have TP5 := Lib.hid (TPr.out.low KB)
          clear KS KB hlow s0 s1 y0 y1 fz
          generalize wp.setCell ⟨W0.heap.size, 1, none⟩ (.string S2) = W5 at *
          have y0 : W5.cell? ⟨W0.heap.size, 0, none⟩ = some (.string S0) := Y5.out.cell 0
          have y1 : W5.cell? ⟨W0.heap.size, 1, none⟩ = some (.string S2) := Y5.out.cell 1
          have f11 : Below W5.heap.size W5 (W5.alloc (.cells #[.string ⟨#[112, 97, 121]⟩, .string S0, .string S2] 9)) := (Below.refl _ _).al _
          have R11 := Lib.hid (rv_new3 W5 ⟨#[112, 97, 121]⟩ S0 S2)
          have H11 := Lib.hid ((H5.out).below f11)
          have A11 := Lib.hid (Turns.of_below (g := g) (ob := ob) f11)
          clear f11
          go_wp2_with fail
          refine (line_any base g room deep ob l bf _ 3 3 [⟨#[112, 97, 121]⟩, S0, S2] _ H11.out (by omega) R11.out (by omega) (by omega) (by omega) (join_le (by simp only [List.map_cons, List.map_nil, List.sum_cons, List.sum_nil, List.size_toArray, List.length_cons, List.length_nil]; omega))).mono ?_
          rintro e w11 ⟨rfl, ob11, l11, b11, t11, r11, o11⟩
          have T11' := Lib.hid ((T5.out).trans (A11.out.trans t11))
          have FX11 := Lib.hid ((FX5.out).turn (A11.out.trans t11))
          have FY11 := Lib.hid ((FY5.out).turn (A11.out.trans t11))
          have B11 := Lib.hid ((FX5.out).blk (A11.out.trans t11) (B5.out))
          have Y11 := Lib.hid ((FY5.out).blk (A11.out.trans t11) (Y5.out))
          have TB11 := Lib.hid ((TB5.out).low ((A11.out.trans t11).low H5.out))
          have TP11 := Lib.hid ((TP5.out).low ((A11.out.trans t11).low H5.out))
          have HR11 := Lib.hid r11
          have HO11 := Lib.hid o11
          clear t11 r11 o11
          go_wp2_with fail
          go_end0
          refine ⟨rfl, ob11, l11, b11, T11'.out, HR11.out, WOut.stmt HGD'.out HIL.out (fun hT => ?_) (HO11.out)⟩
          rw [rawS_of HKR.out hT]
          show some (lineB deep [[112, 97, 121], T.getD 0 [], payB (T.getD 1 [])]) = some (lineB deep [[112, 97, 121], S0.data.toList, S2.data.toList])
          rw [HS0.out, HS2.out]
      · have f11 : Below wr.heap.size wr (wr.alloc (.cells #[.string ⟨#[114, 101, 115, 116]⟩, .string S0] 9)) := (Below.refl _ _).al _
        have R11 := Lib.hid (rv_new2 wr ⟨#[114, 101, 115, 116]⟩ S0)
        have H11 := Lib.hid ((R2.out).below f11)
        have A11 := Lib.hid (Turns.of_below (g := g) (ob := ob) f11)
        clear f11
        go_wp2_with fail
        refine (line_any base g room deep ob l bf _ 2 2 [⟨#[114, 101, 115, 116]⟩, S0] _ H11.out (by omega) R11.out (by omega) (by omega) (by omega) (join_le (by simp only [List.map_cons, List.map_nil, List.sum_cons, List.sum_nil, List.size_toArray, List.length_cons, List.length_nil]; omega))).mono ?_
        rintro e w11 ⟨rfl, ob11, l11, b11, t11, r11, o11⟩
        have T11' := Lib.hid ((T2.out).trans (A11.out.trans t11))
        have FX11 := Lib.hid ((FX.out).turn (A11.out.trans t11))
        have FY11 := Lib.hid ((FY.out).turn (A11.out.trans t11))
        have B11 := Lib.hid ((FX.out).blk (A11.out.trans t11) (B2.out))
        have Y11 := Lib.hid ((FY.out).blk (A11.out.trans t11) (Y2.out))
        have TB11 := Lib.hid ((TBr.out).low ((A11.out.trans t11).low R2.out))
        have TP11 := Lib.hid ((TPr.out).low ((A11.out.trans t11).low R2.out))
        have HR11 := Lib.hid r11
        have HO11 := Lib.hid o11
        clear t11 r11 o11
        go_wp2_with fail
        go_end0
        refine ⟨rfl, ob11, l11, b11, T11'.out, HR11.out, WOut.stmt HGD'.out HIL.out (fun hT => ?_) (HO11.out)⟩
        rw [rawS_of HKR.out hT]
        have a_HS0 := HS0.out
        simp [stmtO, a_HS0]
end Go.Proofs.YtdgekckedchjbaaGreatDoor
namespace Go.Proofs.YtdgekckedchjbaaGreatDoor
open Go.RowKit

theorem rawB_append (deep : Nat) (a b : List Sx) : rawB deep (a ++ b) = ocat (rawB deep a) (rawB deep b) := by
  induction a with
  | nil => rw [List.nil_append, rawB, nil_ocat]
  | cons s a ih => rw [List.cons_append, rawB, rawB, ih, ocat_assoc]
theorem rawB_one (deep : Nat) (s : Sx) : rawB deep [s] = rawS deep s := by rw [rawB, rawB, ocat_nil]
theorem rawB_take {deep : Nat} {L : List Sx} {k : Nat} (h : k < L.length) : rawB deep (L.take (k + 1)) = ocat (rawB deep (L.take k)) (rawS deep L[k]) := by
  rw [List.take_succ_eq_append_getElem h, rawB_append, rawB_one]
theorem rawB_split {deep : Nat} {L : List Sx} {k : Nat} (h : k < L.length) : rawB deep L = ocat (rawB deep (L.take k)) (ocat (rawS deep L[k]) (rawB deep (L.drop (k + 1)))) := by
  conv => lhs; rw [← List.take_append_drop k L]
  rw [rawB_append, List.drop_eq_getElem_cons h, rawB]
theorem none_ocat (o : Option (List UInt8)) : ocat none o = none := rfl
theorem ocat_none (o : Option (List UInt8)) : ocat o none = none := by cases o <;> rfl
theorem ElsG.lowA {base len : Nat} {w w' : World} {A : Option Addr} {E : List Gx} (h : ElsG (fun k => k < base) w 4 1000000 (GA (fun k => k < base) w) A len E) (hb : Below base w w') : ElsG (fun k => k < base) w' 4 1000000 (GA (fun k => k < base) w') A len E :=
  h.kept (S := fun k => ¬ k < base) ⟨hb.os, hb.tape, hb.output, hb.size, fun k _ hn => hb.block k (Classical.not_not.1 hn)⟩ (fun _ _ hk hn => hn hk) (fun _ _ hk => hk)
    (fun cs x h => GA_kept _ _ (fun k => ¬ k < base) w w' cs x ⟨hb.os, hb.tape, hb.output, hb.size, fun k _ hn => hb.block k (Classical.not_not.1 hn)⟩ (fun _ _ hk hn => hn hk) (fun _ _ hk => hk) h)
theorem rawS_bad {k lo hi : Int} {nm : List UInt8} {E : List Gx} {L El : List Sx} {deep : Nat} (h : ¬ (0 ≤ k ∧ k < 10 ∧ E.length = partsS k)) : rawS deep (.mk k nm E lo hi L El) = none := by
  unfold rawS
  exact if_neg h
set_option maxHeartbeats 8000000 in
set_option maxRecDepth 100000 in
theorem block_step (base n : Nat) (HS : ∀ q, n = q + 1 → WStmtOk base q) : WBlockOk base n := by
  intro g room deep ob l bad A len cap L w hT hP h hL hd
  obtain ⟨xs, r0, d0, hM, n0, e0⟩ := hL
  have HH := Lib.hid h
  have TB := Lib.hid hT
  have TP := Lib.hid hP
  have RD := Lib.hid r0
  have DD := Lib.hid d0
  have NL := Lib.hid n0
  have EL := Lib.hid e0
  have HQ := Lib.hid HS
  have hr1 := h.2.2.1
  have hr2 := h.2.2.2.1
  clear hT hP h r0 d0 n0 e0 HS
  go_enter Tryz.func99, Tryz.ntmps99
  go_wp2_with fail
  go_loopw [10] (fun i wr => ∃ k : Nat, k ≤ len ∧ i = .int .i64 k ∧ Hid (Wrote base w g ob room l bad (rawB deep (L.take k)) wr)) (fun i _ => len - (intOf i).toNat)
  case atStart => exact ⟨0, by omega, rfl, (Wrote.none_ HH.out)⟩
  case round =>
    obtain ⟨k, hk, rfl, hw⟩ := hrel
    obtain ⟨ob1, l1, b1, t1, w1, o1⟩ := hw.out
    have T1 := Lib.hid t1
    have R1 := Lib.hid w1
    have O1 := Lib.hid o1
    have hr3 := w1.2.2.1
    clear hw t1 w1 o1
    by_cases hlt : k < len
    · have hkL : k < L.length := by rw [NL.out]; exact hlt
      have ec := EL.out k hkL
      obtain ⟨q, rfl⟩ : ∃ q, n = q + 1 := by
        cases n with
        | zero => exact absurd ec id
        | succ q => exact ⟨q, rfl⟩
      have HTK := Lib.hid (rawB_take (deep := deep) hkL)
      have HSP := Lib.hid (rawB_split (deep := deep) hkL)
      generalize L[k] = sx at *
      obtain ⟨kind, nm, E, lo, hi, SL, SE⟩ := sx
      obtain ⟨A1, l1', c1, A2, l2, c2, A3, l3, c3, hcs, hf, hE, hSL, hSE⟩ := ec
      obtain ⟨NM, hNM⟩ : ∃ s, s = str nm := ⟨_, rfl⟩
      rw [← hNM] at hcs
      obtain ⟨b, o, rfl, hb, qq⟩ := RD.out.chunk (by omega) hlt hcs
      have hbb : b < base := DD.out (by omega) _ rfl
      have hlow := T1.out.low HH.out
      have q0 := (hlow.cell (p := ⟨b, o + k * 7, none⟩) hbb).trans (qq 0 _ rfl)
      have q1 := (hlow.cell (p := ⟨b, o + k * 7 + 1, none⟩) hbb).trans (qq 1 _ rfl)
      have q2 := (hlow.cell (p := ⟨b, o + k * 7 + 2, none⟩) hbb).trans (qq 2 _ rfl)
      have q3 := (hlow.cell (p := ⟨b, o + k * 7 + 3, none⟩) hbb).trans (qq 3 _ rfl)
      have q4 := (hlow.cell (p := ⟨b, o + k * 7 + 4, none⟩) hbb).trans (qq 4 _ rfl)
      have q5 := (hlow.cell (p := ⟨b, o + k * 7 + 5, none⟩) hbb).trans (qq 5 _ rfl)
      have q6 := (hlow.cell (p := ⟨b, o + k * 7 + 6, none⟩) hbb).trans (qq 6 _ rfl)
      have hEl : E.length = l1' := by obtain ⟨_, _, _, _, h, _⟩ := hE; exact h
      have HEl := Lib.hid hEl
      have f2 : Below wr.heap.size wr (wr.alloc (.cells #[.int .i64 kind, .string NM, .slice A1 l1' c1, .int .i64 lo, .int .i64 hi, .slice A2 l2 c2, .slice A3 l3 c3] 95)) := (Below.refl _ wr).al _
      have R2 := Lib.hid (R1.out.below f2)
      have X2 := Lib.hid (Blk.new wr 95 #[.int .i64 kind, .string NM, .slice A1 l1' c1, .int .i64 lo, .int .i64 hi, .slice A2 l2 c2, .slice A3 l3 c3])
      have hl2 := hlow.trans (f2.mono R1.out.low)
      have GE := Lib.hid (hE.lowA hl2)
      have GL := Lib.hid (hSL.low_ hl2)
      have GS := Lib.hid (hSE.low_ hl2)
      have TB2 := Lib.hid (TB.out.low hl2)
      have TP2 := Lib.hid (TP.out.low hl2)
      have T2 := Lib.hid (T1.out.below f2)
      have HF := Lib.hid hf
      have HNM := Lib.hid hNM
      have g1 : (0 : Int) ≤ (k : Int) := by omega
      have g2 : (k : Int) < (len : Int) := by omega
      clear qq hcs hE hSL hSE hEl f2 hl2 hlow hf hNM
      go_upto_region 3 with fail
      clear q0 q1 q2 q3 q4 q5 q6
      generalize wr.alloc (.cells #[.int .i64 kind, .string NM, .slice A1 l1' c1, .int .i64 lo, .int .i64 hi, .slice A2 l2 c2, .slice A3 l3 c3] 95) = W2 at *
      have s0 : W2.cell? ⟨wr.heap.size, 0, none⟩ = some (.int .i64 kind) := X2.out.cell 0
      have s1 : W2.cell? ⟨wr.heap.size, 1, none⟩ = some (.string NM) := X2.out.cell 1
      have s2 : W2.cell? ⟨wr.heap.size, 2, none⟩ = some (.slice A1 l1' c1) := X2.out.cell 2
      have s3 : W2.cell? ⟨wr.heap.size, 3, none⟩ = some (.int .i64 lo) := X2.out.cell 3
      have s4 : W2.cell? ⟨wr.heap.size, 4, none⟩ = some (.int .i64 hi) := X2.out.cell 4
      have s5 : W2.cell? ⟨wr.heap.size, 5, none⟩ = some (.slice A2 l2 c2) := X2.out.cell 5
      have s6 : W2.cell? ⟨wr.heap.size, 6, none⟩ = some (.slice A3 l3 c3) := X2.out.cell 6
      obtain ⟨-, p3, p4⟩ := R2.out.cells_
      have FIN : Hid (∀ nq o2, WOut room l1 b1 o2 l1 true → ocat (rawB deep (L.take k)) o2 = rawB deep L → WroteE base w g ob room l bad (rawB deep L) (.returned (.tuple #[])) ((W2.drewN nq).setCell ⟨g, 3, none⟩ (.bool true))) := fun nq o2 ho he => by
        obtain ⟨wb, kb⟩ := (R2.out.below (below_drewN (Below.refl _ W2) nq)).set_bad true
        exact ⟨rfl, ob1, l1, true, T2.out.trans ⟨((Kept.of_below (below_drewN (Below.refl _ W2) nq)).then_ kb (fun _ _ e => e)).mono (fun _ _ e => .inl e), .inl rfl⟩, wb, (O1.out.then_ ho).cong he⟩
      cases b1 with
      | true =>
        go_quiet (fail)
        go_wp2_with fail
        go_end0
        exact FIN.out nq _ (WOut.was hr3) HSP.out.symm
      | false =>
        by_cases h0 : kind < 0
        · have hbad : rawS deep (.mk kind nm E lo hi SL SE) = none := rawS_bad (by omega)
          have HB := Lib.hid hbad
          clear hbad
          go_quiet (fail)
          go_wp2_with fail
          go_end0
          exact FIN.out nq none (WOut.fail hr3) (by rw [HSP.out, HB.out, none_ocat])
        · by_cases h10 : 10 ≤ kind
          · have hbad : rawS deep (.mk kind nm E lo hi SL SE) = none := rawS_bad (by omega)
            have HB := Lib.hid hbad
            clear hbad
            go_quiet (fail)
            go_wp2_with fail
            go_end0
            exact FIN.out nq none (WOut.fail hr3) (by rw [HSP.out, HB.out, none_ocat])
          · obtain ⟨m, rfl⟩ : ∃ m : Nat, kind = (m : Int) := ⟨kind.toNat, by omega⟩
            have hm10 : m < 10 := by omega
            have pp : W2.cell? ⟨1, m, none⟩ = some (.int .i64 ((partsS (m : Int) : Nat) : Int)) := TP2.out.at_ m hm10
            have i0 : (0 : Int) ≤ (m : Int) := by omega
            have i1 : (m : Int) < 10 := by omega
            by_cases hp : l1' = partsS (m : Int)
            · have hp' : (((l1' : Nat) : Int) == ((partsS (m : Int) : Nat) : Int)) = true := by simp [hp]
              have SM := Lib.hid (fun W (hW : Below W2.heap.size W2 W) => HQ.out q rfl g room deep ob1 l1 (m : Int) lo hi nm E SL SE A1 l1' c1 A2 l2 c2 A3 l3 c3 W (TB2.out.low (hW.mono R2.out.low)) (TP2.out.low (hW.mono R2.out.low)) (R2.out.below hW) HF.out (GE.out.lowA (hW.mono R2.out.low)) (GL.out.low_ (hW.mono R2.out.low)) (GS.out.low_ (hW.mono R2.out.low)) (by omega) i0 i1 (by rw [HEl.out, hp]))
              rw [← HNM.out] at SM
              generalize partsS (m : Int) = PN at *
              clear hp
              go_quiet (fail)
              have fq := Lib.hid (below_drewN (Below.refl W2.heap.size W2) nq)
              have SN := Lib.hid (SM.out _ fq.out)
              clear SM
              go_wp2_with fail
              refine SN.out.mono ?_
              rintro e w3 ⟨rfl, ob3, l3', b3, t3, r3, o3⟩
              have HW : Hid (Wrote base w g ob room l bad (rawB deep (L.take (k + 1))) w3) := ⟨ob3, l3', b3, (T2.out.below fq.out).trans t3, r3, (O1.out.then_ o3).cong HTK.out.symm⟩
              clear t3 r3 o3 SN
              go_wp2_with fail
              go_roundw
              case rel => exact ⟨k + 1, by omega, by go_num, HW⟩
              case measure => simp [intOf]; omega
            · have hp' : (((l1' : Nat) : Int) == ((partsS (m : Int) : Nat) : Int)) = false := by simp; omega
              have hbad : rawS deep (.mk (m : Int) nm E lo hi SL SE) = none := rawS_bad (fun h => hp (by rw [← HEl.out]; exact h.2.2))
              have HB := Lib.hid hbad
              clear hbad hp
              generalize partsS (m : Int) = PN at *
              go_quiet (fail)
              go_wp2_with fail
              go_end0
              exact FIN.out nq none (WOut.fail hr3) (by rw [HSP.out, HB.out, none_ocat])
    · obtain rfl : k = len := by omega
      go_wp2_with fail
      go_end0
      rw [List.take_of_length_le (Nat.le_of_eq NL.out)] at O1
      exact ⟨rfl, ob1, l1, b1, T1.out, R1.out, O1.out⟩
theorem block_all (base : Nat) : ∀ n, WBlockOk base n
  | 0 => block_step base 0 (fun _ h => by omega)
  | n + 1 => block_step base (n + 1) (fun _ h => Nat.succ.inj h ▸ stmt_step base n (block_all base n))
end Go.Proofs.YtdgekckedchjbaaGreatDoor
namespace Go.Proofs.YtdgekckedchjbaaGreatDoor
open Go.RowKit

/-- A row of texts of the call's own. -/
def OS (w : World) (base : Nat) (v : Value) (ps : List ByteArray) : Prop := w.ownsRow base 9 1 v ps.length (ps.map Value.string)
theorem info_string : (Tryz.prog.info? 9).map (fun i => (i.zero, i.size, i.bytes)) = some (some (.string ByteArray.empty), 1, 16) := by kernel_rfl
theorem strs_one (ps : List ByteArray) : ∀ u ∈ ps.map Value.string, u.oneCell' = true := by
  intro u hu
  obtain ⟨s, _, rfl⟩ := List.mem_map.1 hu
  rfl
theorem OS.form {w : World} {base : Nat} {v : Value} {ps : List ByteArray} (h : OS w base v ps) : ∃ A c, v = .slice A ps.length c ∧ ps.length ≤ c ∧ RV w A ps.length (ps.map Value.string) := by
  rcases h.2 with ⟨rfl, hl⟩ | ⟨g, cap, cur, rfl, _, _, hnc, _⟩
  · have : ps = [] := List.eq_nil_of_length_eq_zero hl
    subst this
    exact ⟨none, 0, rfl, Nat.le_refl _, Reads.none_⟩
  · exact ⟨_, _, rfl, hnc, Reads.of_own h⟩
theorem OS.lit1 (w : World) (a : ByteArray) {base : Nat} (hb : base ≤ w.heap.size) : OS (w.alloc (.cells #[.string a] 9)) base (.slice (some ⟨w.heap.size, 0, none⟩) 1 1) [a] :=
  World.ownsRow_lit w #[.string a] 1 hb (by unfold maxLen; omega) rfl
theorem OS.lit2 (w : World) (a b : ByteArray) {base : Nat} (hb : base ≤ w.heap.size) : OS (w.alloc (.cells #[.string a, .string b] 9)) base (.slice (some ⟨w.heap.size, 0, none⟩) 2 2) [a, b] :=
  World.ownsRow_lit w #[.string a, .string b] 2 hb (by unfold maxLen; omega) rfl
theorem OS.below {w w' : World} {base : Nat} {v : Value} {ps : List ByteArray} (h : OS w base v ps) (hb : Below w.heap.size w w') : OS w' base v ps := own_below h hb (Nat.le_refl _)
/-- More behind it. -/
theorem OS.more {w' : World} {base : Nat} {v : Value} {ps qs : List ByteArray} (h : w'.ownsRow base 9 1 v (ps.length + qs.length) (ps.map Value.string ++ qs.map Value.string)) : OS w' base v (ps ++ qs) := by
  unfold OS
  rw [List.length_append, List.map_append]
  exact h
theorem sum_le {ps : List ByteArray} {B : Nat} (h : ∀ s ∈ ps, s.data.size ≤ B) : (ps.map fun s => s.data.size + 1).sum ≤ ps.length * (B + 1) := by
  induction ps with
  | nil => simp
  | cons a l ih =>
    rw [List.map_cons, List.sum_cons, List.length_cons, Nat.succ_mul]
    have := ih (fun s hs => h s (List.mem_cons_of_mem _ hs))
    have := h a (List.mem_cons_self ..)
    omega
/-- The pieces of parameter i of n. -/
def parP (n i : Nat) (v : Va) : List (List UInt8) := [v.nm, Lib.itoa v.lo, Lib.itoa v.hi ++ (if i + 1 < n then [44] else [])]
def parsI (n : Nat) : Nat → List Va → List (List UInt8)
  | _, [] => []
  | i, v :: l => parP n i v ++ parsI n (i + 1) l
theorem parsI_snoc (n : Nat) (v : Va) : ∀ (l : List Va) (i : Nat), parsI n i (l ++ [v]) = parsI n i l ++ parP n (i + l.length) v
  | [], i => by simp [parsI]
  | a :: l, i => by
    rw [List.cons_append, parsI, parsI, parsI_snoc n v l (i + 1), List.append_assoc, List.length_cons]
    rw [show i + 1 + l.length = i + (l.length + 1) by omega]
theorem parsI_all (n : Nat) : ∀ (l : List Va) (i : Nat), i + l.length = n → parsI n i l = paramsB l
  | [], _, _ => rfl
  | [v], i, h => by
    simp only [List.length_cons, List.length_nil] at h
    simp [parsI, parP, paramsB]
    omega
  | v :: u :: l, i, h => by
    simp only [List.length_cons] at h
    have hi : i + 1 < n := by omega
    have e : paramsB (v :: u :: l) = [v.nm, Lib.itoa v.lo, Lib.itoa v.hi ++ [44]] ++ paramsB (u :: l) := by
      rw [paramsB]
      simp
    rw [parsI, parsI_all n (u :: l) (i + 1) (by simp; omega), e]
    simp [parP, hi]
def parsK (n : Nat) (vs : List Va) (k : Nat) : List (List UInt8) := parsI n 0 (vs.take k)
theorem parsK_succ {n : Nat} {vs : List Va} {k : Nat} (h : k < vs.length) : parsK n vs (k + 1) = parsK n vs k ++ parP n k vs[k] := by
  unfold parsK
  rw [List.take_succ_eq_append_getElem h, parsI_snoc, List.length_take, Nat.min_eq_left (by omega), Nat.zero_add]
set_option maxHeartbeats 4000000 in
set_option maxRecDepth 100000 in
theorem wpart_any (base n g room : Nat) (ob : Option Nat) (l : List UInt8) (bad : Bool) (A : Option Addr) (len cap : Nat) (L : List Sx) (B : Option Addr) (m c : Nat) (ps : List ByteArray) (w : World) (hT : Tabs base w) (hP : TabP base w) (h : Wr base w g ob room l bad)
    (hL : ElsG (fun k => k < base) w 7 1000000 (XE (fun k => k < base) w n) A len L) (hd : n ≤ 800) (hr : RV w B m (ps.map Value.string)) (hm : 0 < m) (hc : m ≤ c) (hn2 : m ≤ 10000000) (hj : (Lib.join (ps.map (·.data.toList)) [32]).length ≤ 140737488355328) :
    Calls Tryz.prog 67 #[.pointer (some ⟨g, 0, none⟩), .slice A len cap, .slice B m c] w (WroteE base w g ob room l bad (partO (ps.map (·.data.toList)) L)) := by
  have LN := Lib.hid (line_any base g room 0 ob l bad B m c ps w h (by omega) hr hm hc hn2 hj)
  have HH := Lib.hid h
  have TB := Lib.hid hT
  have TP := Lib.hid hP
  have HL := Lib.hid hL
  have hpo : Hid (partO (ps.map (·.data.toList)) L = ocat (some (lineB 0 (ps.map (·.data.toList)))) (ocat (rawB 1 L) (some (lineB 0 [[101, 110, 100]])))) := rfl
  generalize hq : lineB 0 (ps.map (·.data.toList)) = q at *
  clear hT hP h hL hr hj hq
  go_enter Tryz.func67, Tryz.ntmps67
  go_wp2_with fail
  refine LN.out.mono ?_
  rintro e w1 ⟨rfl, ob1, l1, b1, t1, r1, o1⟩
  have T1 := Lib.hid t1
  have R1 := Lib.hid r1
  have O1 := Lib.hid o1
  have BK := Lib.hid (block_all base n g room 1 ob1 l1 b1 A len cap L w1 (TB.out.low (t1.low HH.out)) (TP.out.low (t1.low HH.out)) r1 (HL.out.low_ (t1.low HH.out)) (by omega))
  clear t1 r1 o1 LN
  go_wp2_with fail
  refine BK.out.mono ?_
  rintro e w2 ⟨rfl, ob2, l2, b2, t2, r2, o2⟩
  have T2 := Lib.hid (T1.out.trans t2)
  have R2 := Lib.hid r2
  have O2 := Lib.hid (O1.out.then_ o2)
  clear t2 r2 o2 BK T1 R1 O1
  have f3 : Below w2.heap.size w2 (w2.alloc (.cells #[.string ⟨#[101, 110, 100]⟩] 9)) := (Below.refl _ _).al _
  have R3 := Lib.hid (R2.out.below f3)
  have T3 := Lib.hid (T2.out.below f3)
  have V3 := Lib.hid (rv_new1 w2 ⟨#[101, 110, 100]⟩)
  clear f3
  go_wp2_with fail
  refine (line_any base g room 0 ob2 l2 b2 _ 1 1 [⟨#[101, 110, 100]⟩] _ R3.out (by omega) V3.out (by omega) (by omega) (by omega) (join_le (by simp only [List.map_cons, List.map_nil, List.sum_cons, List.sum_nil, List.size_toArray, List.length_cons, List.length_nil]; omega))).mono ?_
  rintro e w4 ⟨rfl, ob4, l4, b4, t4, r4, o4⟩
  go_wp2_with fail
  go_end0
  refine ⟨rfl, ob4, l4, b4, T3.out.trans t4, r4, ?_⟩
  rw [hpo.out]
  have := O2.out.then_ o4
  rw [ocat_assoc] at this
  exact this
end Go.Proofs.YtdgekckedchjbaaGreatDoor
