
/-
  The writer's statements: what is asked, and plain laws for it. The writer's stmt. (Printed by wip/tools/genv13.py.) The writer's block; statements at any depth. The writer's part; rows of texts that grow; the pieces of a program's lines.
-/
import Derived.Test.YtdgekckedchjbaaDoorQN
import Derived.Test.YtdgekckedchjbaaDoorQB
namespace Go.Proofs.YtdgekckedchjbaaDoor
open Go.RowKit

/-- The table of the statements' parts. -/
structure TabP (base : Nat) (w : World) : Prop where
  at_ : ∀ k : Nat, k < 10 → w.cell? ⟨3, k, none⟩ = some (.int .i64 (partsS (k : Int) : Nat))
  lt : 4 ≤ base
theorem TabP.low {base : Nat} {w w' : World} (h : TabP base w) (hb : Below base w w') : TabP base w' :=
  ⟨fun k hk => (hb.cell (p := ⟨3, k, none⟩) (by have := h.lt; show (3 : Nat) < base; omega)).trans (h.at_ k hk), h.lt⟩
theorem TabP.more {base base' : Nat} {w : World} (h : TabP base w) (hb : base ≤ base') : TabP base' w := ⟨h.at_, Nat.le_trans h.lt hb⟩
theorem Tabs.low {base : Nat} {w w' : World} (h : Tabs base w) (hb : Below base w w') : Tabs base w' := h.below hb (Nat.le_refl _)
theorem join_len (xs : List (List UInt8)) : (Lib.join xs [32]).length ≤ (xs.map fun x => x.length + 1).sum := by
  unfold Lib.join
  induction xs with
  | nil => simp
  | cons a l ih =>
    cases l with
    | nil => simp
    | cons b l =>
      rw [List.intercalate_cons_cons, List.length_append, List.length_append, List.map_cons, List.sum_cons]
      simp only [List.length_cons, List.length_nil] at *
      omega
theorem mem_rawEs : ∀ {E : List Gx} {T : List (List UInt8)}, rawEs E = some T → ∀ x ∈ E, ∃ t ∈ T, rawE x = some t
  | [], _, _, x, hx => by simp at hx
  | g :: l, T, h, x, hx => by
    rw [rawEs] at h
    cases hg : rawE g with
    | none => rw [hg] at h; cases h
    | some a =>
      cases hl : rawEs l with
      | none => rw [hg, hl] at h; cases h
      | some b =>
        rw [hg, hl] at h
        injection h with h
        subst h
        rcases List.mem_cons.1 hx with rfl | hx
        · exact ⟨a, List.mem_cons_self .., hg⟩
        · obtain ⟨t, ht, e⟩ := mem_rawEs hl x hx
          exact ⟨t, List.mem_cons_of_mem _ ht, e⟩
theorem rawEs_len : ∀ {E : List Gx} {T : List (List UInt8)}, rawEs E = some T → T.length = E.length
  | [], _, h => by
    rw [rawEs] at h
    injection h with h
    subst h
    rfl
  | g :: l, T, h => by
    rw [rawEs] at h
    cases hg : rawE g with
    | none => rw [hg] at h; cases h
    | some a =>
      cases hl : rawEs l with
      | none => rw [hg, hl] at h; cases h
      | some b =>
        rw [hg, hl] at h
        injection h with h
        subst h
        simp [rawEs_len hl]
theorem rawEs_snoc {E : List Gx} {T : List (List UInt8)} {x : Gx} {t : List UInt8} (h : rawEs E = some T) (hx : rawE x = some t) : rawEs (E ++ [x]) = some (T ++ [t]) := by
  induction E generalizing T with
  | nil =>
    rw [rawEs] at h
    injection h with h
    subst h
    rw [List.nil_append, rawEs, hx, rawEs]
    rfl
  | cons g l ih =>
    rw [rawEs] at h
    cases hg : rawE g with
    | none => rw [hg] at h; cases h
    | some a =>
      cases hl : rawEs l with
      | none => rw [hg, hl] at h; cases h
      | some b =>
        rw [hg, hl] at h
        injection h with h
        subst h
        rw [List.cons_append, rawEs, hg, ih hl]
        rfl
/-- One of the texts is none, or too long. -/
def Ill (E : List Gx) (room : Nat) : Prop := ∃ x ∈ E, rawE x = none ∨ ∃ t, rawE x = some t ∧ room < t.length
theorem join_mem {xs : List (List UInt8)} {x : List UInt8} (h : x ∈ xs) : x.length ≤ (Lib.join xs [32]).length := by
  unfold Lib.join
  induction xs with
  | nil => simp at h
  | cons a l ih =>
    cases l with
    | nil =>
      obtain rfl := List.mem_singleton.1 h
      simp
    | cons b l =>
      rw [List.intercalate_cons_cons, List.length_append, List.length_append]
      rcases List.mem_cons.1 h with rfl | h
      · omega
      · have := ih h
        omega
theorem line_mem {deep : Nat} {ps : List (List UInt8)} {x : List UInt8} (h : x ∈ ps) : x.length ≤ (lineB deep ps).length := by
  unfold lineB
  have := join_mem h
  simp only [List.length_append]
  omega
theorem ocat_some_iff {a b : Option (List UInt8)} {t : List UInt8} (h : ocat a b = some t) : ∃ u v, a = some u ∧ b = some v ∧ t = u ++ v := by
  cases a <;> cases b <;> simp [ocat] at h
  exact ⟨_, _, rfl, rfl, h.symm⟩
theorem payB_len (t : List UInt8) : t.length ≤ (payB t).length := by
  unfold payB
  split
  · simp
    omega
  · exact Nat.le_refl _
theorem Sx.E_ {k lo hi : Int} {nm : List UInt8} {E : List Gx} {L El : List Sx} {deep : Nat} {t : List UInt8} (h : rawS deep (.mk k nm E lo hi L El) = some t) : ∃ T, rawEs E = some T ∧ 0 ≤ k ∧ k < 10 ∧ E.length = partsS k := by
  rw [rawS] at h
  split at h
  · rename_i hc
    cases hE : rawEs E with
    | none => rw [hE] at h; cases h
    | some T => exact ⟨T, rfl, hc⟩
  · cases h
/-- No text of a statement is longer than the statement's lines. -/
theorem rawS_long {k lo hi : Int} {nm : List UInt8} {E : List Gx} {L El : List Sx} {deep : Nat} {t : List UInt8} (h : rawS deep (.mk k nm E lo hi L El) = some t) {x : Gx} (hx : x ∈ E) {u : List UInt8} (hu : rawE x = some u) : u.length ≤ t.length := by
  obtain ⟨T, hT, h0, h10, hl⟩ := Sx.E_ h
  obtain ⟨u', hm, hu'⟩ := mem_rawEs hT x hx
  obtain rfl := Option.some.inj (hu.symm.trans hu')
  have hTl := rawEs_len hT
  rw [rawS, if_pos ⟨h0, h10, hl⟩, hT] at h
  simp only at h
  rw [hl] at hTl
  obtain ⟨m, rfl⟩ : ∃ m : Nat, k = (m : Int) := ⟨k.toNat, by omega⟩
  have hcases : m = 0 ∨ m = 1 ∨ m = 2 ∨ m = 3 ∨ m = 4 ∨ m = 5 ∨ m = 6 ∨ m = 7 ∨ m = 8 ∨ m = 9 := by omega
  have g0 : 1 ≤ T.length → T.getD 0 [] ∈ T := fun h => by rw [List.getD_eq_getElem?_getD, List.getElem?_eq_getElem (by omega)]; exact List.getElem_mem _
  have hone : T.length = 1 → u = T.getD 0 [] := fun h => by
    match T, h, hm with
    | [a], _, hm => exact List.mem_singleton.1 hm
  have htwo : T.length = 2 → u = T.getD 0 [] ∨ u = T.getD 1 [] := fun h => by
    match T, h, hm with
    | [a, b], _, hm => simpa using hm
  rcases hcases with rfl | rfl | rfl | rfl | rfl | rfl | rfl | rfl | rfl | rfl <;> simp [partsS] at hTl h
  · subst h
    rw [hone hTl]
    exact line_mem (by simp)
  · subst h
    rcases htwo hTl with e | e <;> rw [e] <;> exact line_mem (by simp)
  · obtain ⟨a, b, ha, hb, rfl⟩ := ocat_some_iff h
    injection ha with ha
    have : u.length ≤ a.length := by
      rw [hone hTl, ← ha]
      exact line_mem (by simp)
    simp
    omega
  · rw [hTl] at hm; simp at hm
  · rw [hTl] at hm; simp at hm
  · rw [hTl] at hm; simp at hm
  · subst h
    rw [hone hTl]
    exact line_mem (by simp)
  · rw [hTl] at hm; simp at hm
  · subst h
    rcases htwo hTl with e | e
    · rw [e]
      exact line_mem (by simp)
    · rw [e]
      exact Nat.le_trans (payB_len _) (line_mem (by simp))
  · subst h
    rw [hone hTl]
    exact line_mem (by simp)
/-- What a statement's lines make of the writer, its texts being read ahead. -/
theorem WOut.stmt {room deep : Nat} {l l' : List UInt8} {bf b' : Bool} {k lo hi : Int} {nm : List UInt8} {E : List Gx} {L El : List Sx} {T : List (List UInt8)} {o : Option (List UInt8)} (hg : bf = false → rawEs E = some T) (hi_ : bf = true → Ill E room)
    (ho : rawEs E = some T → rawS deep (.mk k nm E lo hi L El) = o) (h : WOut room l bf o l' b') : WOut room l false (rawS deep (.mk k nm E lo hi L El)) l' b' := by
  cases bf with
  | false => rw [ho (hg rfl)]; exact h
  | true =>
    refine ⟨fun e => ?_, fun _ => ?_, h.len⟩
    · have := (h.good e).1
      cases this
    · obtain ⟨x, hx, hn⟩ := hi_ rfl
      cases hS : rawS deep (.mk k nm E lo hi L El) with
      | none => exact .inr (.inl rfl)
      | some t =>
        obtain ⟨T', hT, _⟩ := Sx.E_ hS
        obtain ⟨u, hu, hxu⟩ := mem_rawEs hT x hx
        rcases hn with hn | ⟨v, hv, hl⟩
        · rw [hn] at hxu; cases hxu
        · exact .inr (.inr ⟨t, rfl, by have := rawS_long hS hx hv; omega⟩)
/-- An element of a row of expressions. -/
theorem Kid.ofA {base : Nat} {w : World} {A : Option Addr} {l : Nat} {gs : List Gx} (h : ElsG (fun k => k < base) w 4 2513169434843 (GA (fun k => k < base) w) A l gs) {i : Nat} (hi : i < gs.length) (hb : base ≤ w.heap.size) :
    ∃ (n b o : Nat) (op N : Int) (nm : ByteArray) (A' : Option Addr) (l' c' : Nat), Kid base n w A i (gs[i]'hi) b o op N nm A' l' c' ∧ FitG n (gs[i]'hi) := by
  obtain ⟨xs, h1, h0, -, h4, h5⟩ := h
  obtain ⟨n, hc, hf⟩ := h5 i hi
  obtain ⟨op, N, nm, A', l', c', hcs⟩ := hc.form
  obtain ⟨b, o, hA, hbl, hq⟩ := h1.chunk (by omega) (show i < l by omega) hcs
  rw [hcs] at hc
  exact ⟨n, b, o, op, N, nm, A', l', c', ⟨hA, hc, hq 0 _ rfl, hq 1 _ rfl, hq 2 _ rfl, hq 3 _ rfl, h0 (by omega) _ hA, hb⟩, hf⟩
end Go.Proofs.YtdgekckedchjbaaDoor
namespace Go.Proofs.YtdgekckedchjbaaDoor
open Go.RowKit

theorem rv_new5 (W : World) (a b c d e : ByteArray) : RV (W.alloc (.cells #[.string a, .string b, .string c, .string d, .string e] 9)) (some ⟨W.heap.size, 0, none⟩) 5 ([a, b, c, d, e].map Value.string) := by
  refine ⟨rfl, fun _ => ⟨_, rfl, by simp, fun j u hu => ?_⟩⟩
  rw [Addr.add_lit, Nat.zero_add, (Blk.new W 9 #[.string a, .string b, .string c, .string d, .string e]).cell j]
  simpa using hu
theorem join_le {ps : List ByteArray} (h : (ps.map fun s => s.data.size + 1).sum ≤ 140737488355328) : (Lib.join (ps.map (·.data.toList)) [32]).length ≤ 140737488355328 := by
  refine Nat.le_trans (join_len _) ?_
  rw [List.map_map]
  simpa [Function.comp_def] using h
def stmtO (deep : Nat) (k : Int) (nm : List UInt8) (T : List (List UInt8)) (lo hi : Int) (L El : List Sx) : Option (List UInt8) :=
  if k = 0 then some (lineB deep [nm, [61], T.getD 0 []])
  else if k = 1 then some (lineB deep [nm, [91], T.getD 0 [], [93, 32, 61], T.getD 1 []])
  else if k = 2 then ocat (some (lineB deep [[105, 102], T.getD 0 [], [116, 104, 101, 110]])) (ocat (rawB (deep + 1) L)
    (ocat (if El.length = 0 then some [] else ocat (some (lineB deep [[101, 108, 115, 101]])) (rawB (deep + 1) El)) (some (lineB deep [[101, 110, 100]]))))
  else if k = 3 then ocat (some (lineB deep [[102, 111, 114], nm, Lib.itoa lo, Lib.itoa hi, [100, 111]])) (ocat (rawB (deep + 1) L) (some (lineB deep [[101, 110, 100]])))
  else if k = 4 then some (lineB deep [[114, 101, 102, 117, 115, 101]])
  else if k = 5 then some (lineB deep [[114, 111, 108, 108], nm, Lib.itoa lo])
  else if k = 6 then some (lineB deep [[115, 101, 97, 116], T.getD 0 []])
  else if k = 7 then some (lineB deep [[111, 118, 101, 114]])
  else if k = 8 then some (lineB deep [[112, 97, 121], T.getD 0 [], payB (T.getD 1 [])])
  else some (lineB deep [[114, 101, 115, 116], T.getD 0 []])
theorem rawS_of {k lo hi : Int} {nm : List UInt8} {E : List Gx} {L El : List Sx} {T : List (List UInt8)} {deep : Nat} (h : 0 ≤ k ∧ k < 10 ∧ E.length = partsS k) (hT : rawEs E = some T) : rawS deep (.mk k nm E lo hi L El) = stmtO deep k nm T lo hi L El := by
  rw [rawS, if_pos h, hT]
  rfl
theorem getD_len {T : List (List UInt8)} {room : Nat} (h : ∀ t ∈ T, t.length ≤ room) (i : Nat) : (T.getD i []).length ≤ room := by
  rw [List.getD_eq_getElem?_getD]
  rcases Nat.lt_or_ge i T.length with hi | hi
  · rw [List.getElem?_eq_getElem hi]
    exact h _ (List.getElem_mem hi)
  · rw [List.getElem?_eq_none hi]
    simp
theorem ElsG.low_ {base n len : Nat} {w w' : World} {A : Option Addr} {L : List Sx} (h : ElsG (fun k => k < base) w 7 2513169434843 (XE (fun k => k < base) w n) A len L) (hb : Below base w w') : ElsG (fun k => k < base) w' 7 2513169434843 (XE (fun k => k < base) w' n) A len L :=
  h.kept (S := fun k => ¬ k < base) ⟨hb.os, hb.tape, hb.output, hb.size, fun k _ hn => hb.block k (Classical.not_not.1 hn)⟩ (fun _ _ hk hn => hn hk) (fun _ _ hk => hk)
    (XE.kept (S := fun k => ¬ k < base) ⟨hb.os, hb.tape, hb.output, hb.size, fun k _ hn => hb.block k (Classical.not_not.1 hn)⟩ (fun _ _ hk hn => hn hk) (fun _ _ hk => hk) n)
theorem payB_yes {s : ByteArray} {t : List UInt8} (h : s.data.toList = t) (hq : Lib.hasPrefix s.data.toList (⟨#[45]⟩ : ByteArray).data.toList = true) : payB t = [40, 32] ++ s.data.toList ++ [32, 41] := by
  unfold payB
  rw [← h, if_pos]
  cases hs : s.data.toList with
  | nil => rw [hs] at hq; simp [Lib.hasPrefix] at hq
  | cons a r => rw [hs] at hq; simp [Lib.hasPrefix] at hq; simp [hq]
theorem payB_no {s : ByteArray} {t : List UInt8} (h : s.data.toList = t) (hq : Lib.hasPrefix s.data.toList (⟨#[45]⟩ : ByteArray).data.toList = false) : payB t = s.data.toList := by
  unfold payB
  rw [← h, if_neg]
  intro e
  cases hs : s.data.toList with
  | nil => rw [hs] at e; cases e
  | cons a r =>
    rw [hs] at e hq
    injection e with e
    subst e
    simp [Lib.hasPrefix] at hq
end Go.Proofs.YtdgekckedchjbaaDoor
namespace Go.Proofs.YtdgekckedchjbaaDoor
open Go.RowKit

theorem rawB_append (deep : Nat) (a b : List Sx) : rawB deep (a ++ b) = ocat (rawB deep a) (rawB deep b) := by
  induction a with
  | nil => rw [List.nil_append, rawB, nil_ocat]
  | cons s a ih => rw [List.cons_append, rawB, rawB, ih, ocat_assoc]
theorem rawB_one (deep : Nat) (s : Sx) : rawB deep [s] = rawS deep s := by rw [rawB, rawB, ocat_nil]
theorem rawB_take {deep : Nat} {L : List Sx} {k : Nat} (h : k < L.length) : rawB deep (L.take (k + 1)) = ocat (rawB deep (L.take k)) (rawS deep L[k]) := by
  rw [List.take_succ_eq_append_getElem h, rawB_append, rawB_one]
theorem rawB_split {deep : Nat} {L : List Sx} {k : Nat} (h : k < L.length) : rawB deep L = ocat (rawB deep (L.take k)) (ocat (rawS deep L[k]) (rawB deep (L.drop (k + 1)))) := by
  conv => lhs; rw [← List.take_append_drop k L]
  rw [rawB_append, List.drop_eq_getElem_cons h, rawB]
theorem none_ocat (o : Option (List UInt8)) : ocat none o = none := rfl
theorem ocat_none (o : Option (List UInt8)) : ocat o none = none := by cases o <;> rfl
theorem ElsG.lowA {base len : Nat} {w w' : World} {A : Option Addr} {E : List Gx} (h : ElsG (fun k => k < base) w 4 2513169434843 (GA (fun k => k < base) w) A len E) (hb : Below base w w') : ElsG (fun k => k < base) w' 4 2513169434843 (GA (fun k => k < base) w') A len E :=
  h.kept (S := fun k => ¬ k < base) ⟨hb.os, hb.tape, hb.output, hb.size, fun k _ hn => hb.block k (Classical.not_not.1 hn)⟩ (fun _ _ hk hn => hn hk) (fun _ _ hk => hk)
    (fun cs x h => GA_kept _ _ (fun k => ¬ k < base) w w' cs x ⟨hb.os, hb.tape, hb.output, hb.size, fun k _ hn => hb.block k (Classical.not_not.1 hn)⟩ (fun _ _ hk hn => hn hk) (fun _ _ hk => hk) h)
theorem rawS_bad {k lo hi : Int} {nm : List UInt8} {E : List Gx} {L El : List Sx} {deep : Nat} (h : ¬ (0 ≤ k ∧ k < 10 ∧ E.length = partsS k)) : rawS deep (.mk k nm E lo hi L El) = none := by
  unfold rawS
  exact if_neg h
end Go.Proofs.YtdgekckedchjbaaDoor
namespace Go.Proofs.YtdgekckedchjbaaDoor
open Go.RowKit

/-- A row of texts of the call's own. -/
def OS (w : World) (base : Nat) (v : Value) (ps : List ByteArray) : Prop := w.ownsRow base 9 1 v ps.length (ps.map Value.string)
theorem info_string : (Tryd.prog.info? 9).map (fun i => (i.zero, i.size, i.bytes)) = some (some (.string ByteArray.empty), 1, 16) := by kernel_rfl
theorem strs_one (ps : List ByteArray) : ∀ u ∈ ps.map Value.string, u.oneCell' = true := by
  intro u hu
  obtain ⟨s, _, rfl⟩ := List.mem_map.1 hu
  rfl
theorem OS.form {w : World} {base : Nat} {v : Value} {ps : List ByteArray} (h : OS w base v ps) : ∃ A c, v = .slice A ps.length c ∧ ps.length ≤ c ∧ RV w A ps.length (ps.map Value.string) := by
  rcases h.2 with ⟨rfl, hl⟩ | ⟨g, cap, cur, rfl, _, _, hnc, _⟩
  · have : ps = [] := List.eq_nil_of_length_eq_zero hl
    subst this
    exact ⟨none, 0, rfl, Nat.le_refl _, Reads.none_⟩
  · exact ⟨_, _, rfl, hnc, Reads.of_own h⟩
theorem OS.lit1 (w : World) (a : ByteArray) {base : Nat} (hb : base ≤ w.heap.size) : OS (w.alloc (.cells #[.string a] 9)) base (.slice (some ⟨w.heap.size, 0, none⟩) 1 1) [a] :=
  World.ownsRow_lit w #[.string a] 1 hb (by unfold maxLen; omega) rfl
theorem OS.lit2 (w : World) (a b : ByteArray) {base : Nat} (hb : base ≤ w.heap.size) : OS (w.alloc (.cells #[.string a, .string b] 9)) base (.slice (some ⟨w.heap.size, 0, none⟩) 2 2) [a, b] :=
  World.ownsRow_lit w #[.string a, .string b] 2 hb (by unfold maxLen; omega) rfl
theorem OS.below {w w' : World} {base : Nat} {v : Value} {ps : List ByteArray} (h : OS w base v ps) (hb : Below w.heap.size w w') : OS w' base v ps := own_below h hb (Nat.le_refl _)
/-- More behind it. -/
theorem OS.more {w' : World} {base : Nat} {v : Value} {ps qs : List ByteArray} (h : w'.ownsRow base 9 1 v (ps.length + qs.length) (ps.map Value.string ++ qs.map Value.string)) : OS w' base v (ps ++ qs) := by
  unfold OS
  rw [List.length_append, List.map_append]
  exact h
theorem sum_le {ps : List ByteArray} {B : Nat} (h : ∀ s ∈ ps, s.data.size ≤ B) : (ps.map fun s => s.data.size + 1).sum ≤ ps.length * (B + 1) := by
  induction ps with
  | nil => simp
  | cons a l ih =>
    rw [List.map_cons, List.sum_cons, List.length_cons, Nat.succ_mul]
    have := ih (fun s hs => h s (List.mem_cons_of_mem _ hs))
    have := h a (List.mem_cons_self ..)
    omega
/-- The pieces of parameter i of n. -/
def parP (n i : Nat) (v : Va) : List (List UInt8) := [v.nm, Lib.itoa v.lo, Lib.itoa v.hi ++ (if i + 1 < n then [44] else [])]
def parsI (n : Nat) : Nat → List Va → List (List UInt8)
  | _, [] => []
  | i, v :: l => parP n i v ++ parsI n (i + 1) l
theorem parsI_snoc (n : Nat) (v : Va) : ∀ (l : List Va) (i : Nat), parsI n i (l ++ [v]) = parsI n i l ++ parP n (i + l.length) v
  | [], i => by simp [parsI]
  | a :: l, i => by
    rw [List.cons_append, parsI, parsI, parsI_snoc n v l (i + 1), List.append_assoc, List.length_cons]
    rw [show i + 1 + l.length = i + (l.length + 1) by omega]
theorem parsI_all (n : Nat) : ∀ (l : List Va) (i : Nat), i + l.length = n → parsI n i l = paramsB l
  | [], _, _ => rfl
  | [v], i, h => by
    simp only [List.length_cons, List.length_nil] at h
    simp [parsI, parP, paramsB]
    omega
  | v :: u :: l, i, h => by
    simp only [List.length_cons] at h
    have hi : i + 1 < n := by omega
    have e : paramsB (v :: u :: l) = [v.nm, Lib.itoa v.lo, Lib.itoa v.hi ++ [44]] ++ paramsB (u :: l) := by
      rw [paramsB]
      simp
    rw [parsI, parsI_all n (u :: l) (i + 1) (by simp; omega), e]
    simp [parP, hi]
def parsK (n : Nat) (vs : List Va) (k : Nat) : List (List UInt8) := parsI n 0 (vs.take k)
theorem parsK_succ {n : Nat} {vs : List Va} {k : Nat} (h : k < vs.length) : parsK n vs (k + 1) = parsK n vs k ++ parP n k vs[k] := by
  unfold parsK
  rw [List.take_succ_eq_append_getElem h, parsI_snoc, List.length_take, Nat.min_eq_left (by omega), Nat.zero_add]
end Go.Proofs.YtdgekckedchjbaaDoor
