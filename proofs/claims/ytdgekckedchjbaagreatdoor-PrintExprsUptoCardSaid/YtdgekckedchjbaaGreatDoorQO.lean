
/-
  The writer's statements: what is asked, and plain laws for it. The writer's stmt. (Printed by wip/tools/genv13.py.) The writer's block; statements at any depth. The writer's part; rows of texts that grow; the pieces of a program's lines.
-/
import Derived.Test.YtdgekckedchjbaaGreatDoorQN
import Derived.Test.YtdgekckedchjbaaGreatDoorQB
namespace Go.Proofs.YtdgekckedchjbaaGreatDoor
open Go.RowKit

/-- The table of the statements' parts. -/
structure TabP (base : Nat) (w : World) : Prop where
  at_ : ∀ k : Nat, k < 10 → w.cell? ⟨1, k, none⟩ = some (.int .i64 (partsS (k : Int) : Nat))
  lt : 4 ≤ base
theorem TabP.low {base : Nat} {w w' : World} (h : TabP base w) (hb : Below base w w') : TabP base w' :=
  ⟨fun k hk => (hb.cell (p := ⟨1, k, none⟩) (by have := h.lt; show (1 : Nat) < base; omega)).trans (h.at_ k hk), h.lt⟩
theorem TabP.more {base base' : Nat} {w : World} (h : TabP base w) (hb : base ≤ base') : TabP base' w := ⟨h.at_, Nat.le_trans h.lt hb⟩
theorem Tabs.low {base : Nat} {w w' : World} (h : Tabs base w) (hb : Below base w w') : Tabs base w' := h.below hb (Nat.le_refl _)
theorem mem_rawEs : ∀ {E : List Gx} {T : List (List UInt8)}, rawEs E = some T → ∀ x ∈ E, ∃ t ∈ T, rawE x = some t
  | [], _, _, x, hx => by simp at hx
  | g :: l, T, h, x, hx => by
    rw [rawEs] at h
    cases hg : rawE g with
    | none => rw [hg] at h; cases h
    | some a =>
      cases hl : rawEs l with
      | none => rw [hg, hl] at h; cases h
      | some b =>
        rw [hg, hl] at h
        injection h with h
        subst h
        rcases List.mem_cons.1 hx with rfl | hx
        · exact ⟨a, List.mem_cons_self .., hg⟩
        · obtain ⟨t, ht, e⟩ := mem_rawEs hl x hx
          exact ⟨t, List.mem_cons_of_mem _ ht, e⟩
theorem rawEs_len : ∀ {E : List Gx} {T : List (List UInt8)}, rawEs E = some T → T.length = E.length
  | [], _, h => by
    rw [rawEs] at h
    injection h with h
    subst h
    rfl
  | g :: l, T, h => by
    rw [rawEs] at h
    cases hg : rawE g with
    | none => rw [hg] at h; cases h
    | some a =>
      cases hl : rawEs l with
      | none => rw [hg, hl] at h; cases h
      | some b =>
        rw [hg, hl] at h
        injection h with h
        subst h
        simp [rawEs_len hl]
/-- One of the texts is none, or too long. -/
def Ill (E : List Gx) (room : Nat) : Prop := ∃ x ∈ E, rawE x = none ∨ ∃ t, rawE x = some t ∧ room < t.length
theorem join_mem {xs : List (List UInt8)} {x : List UInt8} (h : x ∈ xs) : x.length ≤ (Lib.join xs [32]).length := by
  unfold Lib.join
  induction xs with
  | nil => simp at h
  | cons a l ih =>
    cases l with
    | nil =>
      obtain rfl := List.mem_singleton.1 h
      simp
    | cons b l =>
      rw [List.intercalate_cons_cons, List.length_append, List.length_append]
      rcases List.mem_cons.1 h with rfl | h
      · omega
      · have := ih h
        omega
theorem line_mem {deep : Nat} {ps : List (List UInt8)} {x : List UInt8} (h : x ∈ ps) : x.length ≤ (lineB deep ps).length := by
  unfold lineB
  have := join_mem h
  simp only [List.length_append]
  omega
theorem ocat_some_iff {a b : Option (List UInt8)} {t : List UInt8} (h : ocat a b = some t) : ∃ u v, a = some u ∧ b = some v ∧ t = u ++ v := by
  cases a <;> cases b <;> simp [ocat] at h
  exact ⟨_, _, rfl, rfl, h.symm⟩
theorem payB_len (t : List UInt8) : t.length ≤ (payB t).length := by
  unfold payB
  split
  · simp
    omega
  · exact Nat.le_refl _
theorem Sx.E_ {k lo hi : Int} {nm : List UInt8} {E : List Gx} {L El : List Sx} {deep : Nat} {t : List UInt8} (h : rawS deep (.mk k nm E lo hi L El) = some t) : ∃ T, rawEs E = some T ∧ 0 ≤ k ∧ k < 10 ∧ E.length = partsS k := by
  rw [rawS] at h
  split at h
  · rename_i hc
    cases hE : rawEs E with
    | none => rw [hE] at h; cases h
    | some T => exact ⟨T, rfl, hc⟩
  · cases h
/-- No text of a statement is longer than the statement's lines. -/
theorem rawS_long {k lo hi : Int} {nm : List UInt8} {E : List Gx} {L El : List Sx} {deep : Nat} {t : List UInt8} (h : rawS deep (.mk k nm E lo hi L El) = some t) {x : Gx} (hx : x ∈ E) {u : List UInt8} (hu : rawE x = some u) : u.length ≤ t.length := by
  obtain ⟨T, hT, h0, h10, hl⟩ := Sx.E_ h
  obtain ⟨u', hm, hu'⟩ := mem_rawEs hT x hx
  obtain rfl := Option.some.inj (hu.symm.trans hu')
  have hTl := rawEs_len hT
  rw [rawS, if_pos ⟨h0, h10, hl⟩, hT] at h
  simp only at h
  rw [hl] at hTl
  obtain ⟨m, rfl⟩ : ∃ m : Nat, k = (m : Int) := ⟨k.toNat, by omega⟩
  have hcases : m = 0 ∨ m = 1 ∨ m = 2 ∨ m = 3 ∨ m = 4 ∨ m = 5 ∨ m = 6 ∨ m = 7 ∨ m = 8 ∨ m = 9 := by omega
  have g0 : 1 ≤ T.length → T.getD 0 [] ∈ T := fun h => by rw [List.getD_eq_getElem?_getD, List.getElem?_eq_getElem (by omega)]; exact List.getElem_mem _
  have hone : T.length = 1 → u = T.getD 0 [] := fun h => by
    match T, h, hm with
    | [a], _, hm => exact List.mem_singleton.1 hm
  have htwo : T.length = 2 → u = T.getD 0 [] ∨ u = T.getD 1 [] := fun h => by
    match T, h, hm with
    | [a, b], _, hm => simpa using hm
  rcases hcases with rfl | rfl | rfl | rfl | rfl | rfl | rfl | rfl | rfl | rfl <;> simp [partsS] at hTl h
  · subst h
    rw [hone hTl]
    exact line_mem (by simp)
  · subst h
    rcases htwo hTl with e | e <;> rw [e] <;> exact line_mem (by simp)
  · obtain ⟨a, b, ha, hb, rfl⟩ := ocat_some_iff h
    injection ha with ha
    have : u.length ≤ a.length := by
      rw [hone hTl, ← ha]
      exact line_mem (by simp)
    simp
    omega
  · rw [hTl] at hm; simp at hm
  · rw [hTl] at hm; simp at hm
  · rw [hTl] at hm; simp at hm
  · subst h
    rw [hone hTl]
    exact line_mem (by simp)
  · rw [hTl] at hm; simp at hm
  · subst h
    rcases htwo hTl with e | e
    · rw [e]
      exact line_mem (by simp)
    · rw [e]
      exact Nat.le_trans (payB_len _) (line_mem (by simp))
  · subst h
    rw [hone hTl]
    exact line_mem (by simp)
/-- What a statement's lines make of the writer, its texts being read ahead. -/
theorem WOut.stmt {room deep : Nat} {l l' : List UInt8} {bf b' : Bool} {k lo hi : Int} {nm : List UInt8} {E : List Gx} {L El : List Sx} {T : List (List UInt8)} {o : Option (List UInt8)} (hg : bf = false → rawEs E = some T) (hi_ : bf = true → Ill E room)
    (ho : rawEs E = some T → rawS deep (.mk k nm E lo hi L El) = o) (h : WOut room l bf o l' b') : WOut room l false (rawS deep (.mk k nm E lo hi L El)) l' b' := by
  cases bf with
  | false => rw [ho (hg rfl)]; exact h
  | true =>
    refine ⟨fun e => ?_, fun _ => ?_, h.len⟩
    · have := (h.good e).1
      cases this
    · obtain ⟨x, hx, hn⟩ := hi_ rfl
      cases hS : rawS deep (.mk k nm E lo hi L El) with
      | none => exact .inr (.inl rfl)
      | some t =>
        obtain ⟨T', hT, _⟩ := Sx.E_ hS
        obtain ⟨u, hu, hxu⟩ := mem_rawEs hT x hx
        rcases hn with hn | ⟨v, hv, hl⟩
        · rw [hn] at hxu; cases hxu
        · exact .inr (.inr ⟨t, rfl, by have := rawS_long hS hx hv; omega⟩)
end Go.Proofs.YtdgekckedchjbaaGreatDoor
namespace Go.Proofs.YtdgekckedchjbaaGreatDoor
open Go.RowKit

def WStmtOk (base n : Nat) : Prop := ∀ (g room deep : Nat) (ob : Option Nat) (l : List UInt8) (kind lo hi : Int) (nm : List UInt8) (E : List Gx) (L El : List Sx) (A1 : Option Addr) (l1 c1 : Nat) (A2 : Option Addr) (l2 c2 : Nat) (A3 : Option Addr) (l3 c3 : Nat) (w : World),
  Tabs base w → TabP base w → Wr base w g ob room l false → (nm.length ≤ 2513169434843 ∧ FitN lo ∧ FitN hi) → ElsG (fun k => k < base) w 4 2513169434843 (GA (fun k => k < base) w) A1 l1 E → ElsG (fun k => k < base) w 7 2513169434843 (XE (fun k => k < base) w n) A2 l2 L →
  ElsG (fun k => k < base) w 7 2513169434843 (XE (fun k => k < base) w n) A3 l3 El → deep + n ≤ 900 → 0 ≤ kind → kind < 10 → E.length = partsS kind →
  Calls Tryz.prog 136 #[.pointer (some ⟨g, 0, none⟩), .agg #[.int .i64 kind, .string (str nm), .slice A1 l1 c1, .int .i64 lo, .int .i64 hi, .slice A2 l2 c2, .slice A3 l3 c3], .int .i64 deep] w (WroteE base w g ob room l false (rawS deep (.mk kind nm E lo hi L El)))
def WBlockOk (base n : Nat) : Prop := ∀ (g room deep : Nat) (ob : Option Nat) (l : List UInt8) (bad : Bool) (A : Option Addr) (len cap : Nat) (L : List Sx) (w : World),
  Tabs base w → TabP base w → Wr base w g ob room l bad → ElsG (fun k => k < base) w 7 2513169434843 (XE (fun k => k < base) w n) A len L → deep + n ≤ 901 →
  Calls Tryz.prog 99 #[.pointer (some ⟨g, 0, none⟩), .slice A len cap, .int .i64 deep] w (WroteE base w g ob room l bad (rawB deep L))
def stmtO (deep : Nat) (k : Int) (nm : List UInt8) (T : List (List UInt8)) (lo hi : Int) (L El : List Sx) : Option (List UInt8) :=
  if k = 0 then some (lineB deep [nm, [61], T.getD 0 []])
  else if k = 1 then some (lineB deep [nm, [91], T.getD 0 [], [93, 32, 61], T.getD 1 []])
  else if k = 2 then ocat (some (lineB deep [[105, 102], T.getD 0 [], [116, 104, 101, 110]])) (ocat (rawB (deep + 1) L)
    (ocat (if El.length = 0 then some [] else ocat (some (lineB deep [[101, 108, 115, 101]])) (rawB (deep + 1) El)) (some (lineB deep [[101, 110, 100]]))))
  else if k = 3 then ocat (some (lineB deep [[102, 111, 114], nm, Lib.itoa lo, Lib.itoa hi, [100, 111]])) (ocat (rawB (deep + 1) L) (some (lineB deep [[101, 110, 100]])))
  else if k = 4 then some (lineB deep [[114, 101, 102, 117, 115, 101]])
  else if k = 5 then some (lineB deep [[114, 111, 108, 108], nm, Lib.itoa lo])
  else if k = 6 then some (lineB deep [[115, 101, 97, 116], T.getD 0 []])
  else if k = 7 then some (lineB deep [[111, 118, 101, 114]])
  else if k = 8 then some (lineB deep [[112, 97, 121], T.getD 0 [], payB (T.getD 1 [])])
  else some (lineB deep [[114, 101, 115, 116], T.getD 0 []])
/-- The texts that were read so far. -/
def TxI (base : Nat) (w : World) (g : Nat) (ob : Option Nat) (room : Nat) (l : List UInt8) (sb tb : Nat) (sc : Array Value) (E : List Gx) (k : Nat) (wr : World) : Prop :=
  ∃ (bf : Bool) (T : List (List UInt8)), Turns w g ob wr ob ∧ Wr base wr g ob room l bf ∧ Blk wr sb 95 sc ∧ Blk wr tb 208 #[.string (str (T.getD 0 [])), .string (str (T.getD 1 []))] ∧
    T.length = k ∧ (∀ t ∈ T, t.length ≤ room) ∧ (bf = false → rawEs (E.take k) = some T) ∧ (bf = true → Ill E room)

end Go.Proofs.YtdgekckedchjbaaGreatDoor
namespace Go.Proofs.YtdgekckedchjbaaGreatDoor
open Go.RowKit

end Go.Proofs.YtdgekckedchjbaaGreatDoor
namespace Go.Proofs.YtdgekckedchjbaaGreatDoor
open Go.RowKit

/-- A row of texts of the call's own. -/
def OS (w : World) (base : Nat) (v : Value) (ps : List ByteArray) : Prop := w.ownsRow base 9 1 v ps.length (ps.map Value.string)
theorem OS.form {w : World} {base : Nat} {v : Value} {ps : List ByteArray} (h : OS w base v ps) : ∃ A c, v = .slice A ps.length c ∧ ps.length ≤ c ∧ RV w A ps.length (ps.map Value.string) := by
  rcases h.2 with ⟨rfl, hl⟩ | ⟨g, cap, cur, rfl, _, _, hnc, _⟩
  · have : ps = [] := List.eq_nil_of_length_eq_zero hl
    subst this
    exact ⟨none, 0, rfl, Nat.le_refl _, Reads.none_⟩
  · exact ⟨_, _, rfl, hnc, Reads.of_own h⟩
theorem OS.below {w w' : World} {base : Nat} {v : Value} {ps : List ByteArray} (h : OS w base v ps) (hb : Below w.heap.size w w') : OS w' base v ps := own_below h hb (Nat.le_refl _)
/-- More behind it. -/
theorem OS.more {w' : World} {base : Nat} {v : Value} {ps qs : List ByteArray} (h : w'.ownsRow base 9 1 v (ps.length + qs.length) (ps.map Value.string ++ qs.map Value.string)) : OS w' base v (ps ++ qs) := by
  unfold OS
  rw [List.length_append, List.map_append]
  exact h
/-- The pieces of parameter i of n. -/
def parP (n i : Nat) (v : Va) : List (List UInt8) := [v.nm, Lib.itoa v.lo, Lib.itoa v.hi ++ (if i + 1 < n then [44] else [])]
def parsI (n : Nat) : Nat → List Va → List (List UInt8)
  | _, [] => []
  | i, v :: l => parP n i v ++ parsI n (i + 1) l
def parsK (n : Nat) (vs : List Va) (k : Nat) : List (List UInt8) := parsI n 0 (vs.take k)
end Go.Proofs.YtdgekckedchjbaaGreatDoor
