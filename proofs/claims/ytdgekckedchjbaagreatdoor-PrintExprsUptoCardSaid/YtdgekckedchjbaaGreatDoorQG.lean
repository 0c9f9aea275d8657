
/-
  The parser of programs in memory: rows, statements, variables; each step in one form. No program is named here but for its types. The parser's lists: as many as there are. (Printed by wip/tools/gens20.py.) An expression where the parser has an error already: nothing is read. (Printed by wip/tools/gens21.py.)
-/
import Derived.Test.YtdgekckedchjbaaGreatDoorQF
import Derived.Test.YtdgekckedchjbaaGreatDoorQD
import Derived.Test.YtdgekckedchjbaaGreatDoorQB
namespace Go.Proofs.YtdgekckedchjbaaGreatDoor
open Go.RowKit

/-- How the cells of an element tell of it; its parts lie in blocks D. -/
abbrev Cel (α : Type) := (Nat → Prop) → World → List Value → α → Prop
def QKept {α : Type} (Q : Cel α) : Prop := ∀ (D E S : Nat → Prop) (w w' : World) (cs : List Value) (a : α), Kept S w w' → (∀ k, k < w.heap.size → D k → ¬ S k) → (∀ k, k < w.heap.size → D k → E k) → Q D w cs a → Q E w' cs a
def QI : Cel Int := fun _ _ cs n => cs = [.int .i64 n]
def vaCells (v : Va) : List Value := [.string (str v.nm), .int .i64 v.size, .int .i64 v.lo, .int .i64 v.hi]
def QV : Cel Va := fun _ _ cs v => cs = vaCells v
def QE : Cel Ex := fun D w cs x => TE D w x cs
/-- A statement's seven cells. -/
def SE (D : Nat → Prop) (w : World) : Nat → List Value → St → Prop
  | 0, _, _ => False
  | n + 1, cs, .mk kind nm E lo hi L El => ∃ (A1 : Option Addr) (l1 c1 : Nat) (A2 : Option Addr) (l2 c2 : Nat) (A3 : Option Addr) (l3 c3 : Nat),
      cs = [.int .i64 kind, .string (str nm), .slice A1 l1 c1, .int .i64 lo, .int .i64 hi, .slice A2 l2 c2, .slice A3 l3 c3] ∧
      ElsG D w 4 2513169434843 (QE D w) A1 l1 E ∧ ElsG D w 7 2513169434843 (SE D w n) A2 l2 L ∧ ElsG D w 7 2513169434843 (SE D w n) A3 l3 El
def QS (d : Nat) : Cel St := fun D w cs s => SE D w d cs s
theorem QI_kept : QKept QI := fun _ _ _ _ _ _ _ _ _ _ h => h
theorem QV_kept : QKept QV := fun _ _ _ _ _ _ _ _ _ _ h => h
theorem QE_kept : QKept QE := fun D _ _ w _ cs a hk hs hE h =>
  (TE.kept (D := fun k => D k ∧ k < w.heap.size) hk (fun k hd => hs k hd.2 hd.1) a cs (h.mono (fun _ hk hd => ⟨hd, hk⟩))).mono (fun _ _ hd => hE _ hd.2 hd.1)
theorem SE.kept {D E S : Nat → Prop} {w w' : World} (hk : Kept S w w') (hs : ∀ k, k < w.heap.size → D k → ¬ S k) (hE : ∀ k, k < w.heap.size → D k → E k) : ∀ (n : Nat) (cs : List Value) (s : St), SE D w n cs s → SE E w' n cs s
  | 0, _, _, h => h
  | n + 1, cs, .mk kind nm El lo hi L Ls, h => by
    obtain ⟨A1, l1, c1, A2, l2, c2, A3, l3, c3, h1, h2, h3, h4⟩ := h
    exact ⟨A1, l1, c1, A2, l2, c2, A3, l3, c3, h1, h2.kept hk hs hE (fun cs x h => QE_kept D E S w w' cs x hk hs hE h), h3.kept hk hs hE (SE.kept hk hs hE n), h4.kept hk hs hE (SE.kept hk hs hE n)⟩
theorem QS_kept (d : Nat) : QKept (QS d) := fun _ _ _ _ _ cs s hk hs hE h => SE.kept hk hs hE d cs s h

/-- A slice of elements of s cells each. -/
def IsRow {α : Type} (s : Nat) (Q : Cel α) (base : Nat) (w : World) (l : List α) (v : Value) : Prop :=
  ∃ (A : Option Addr) (n c : Nat), v = .slice A n c ∧ ElsG (fun k => base ≤ k) w s 2513169434843 (Q (fun k => base ≤ k) w) A n l
/-- A slice that can be read. -/
def ShR (s : Nat) (w : World) (v : Value) : Prop := ∃ (A : Option Addr) (n c : Nat) (xs : List Value), v = .slice A n c ∧ Reads w w.heap.size s A n xs ∧ (∀ u ∈ xs, u.oneCell' = true) ∧ n ≤ 100000
def ShL (_ : World) (v : Value) : Prop := ∃ (A : Option Addr) (n c : Nat), v = .slice A n c
/-- A struct. -/
def IsEl {α : Type} (Q : Cel α) (base : Nat) (w : World) (a : α) (v : Value) : Prop := ∃ cs : List Value, v = .agg (List.toArray cs) ∧ Q (fun k => base ≤ k) w cs a
def ShE (_ : World) (v : Value) : Prop := ∃ (op N : Int) (nm : ByteArray) (B : Option Addr) (l k : Nat), v = .agg #[.int .i64 op, .int .i64 N, .string nm, .slice B l k]
def ShV (_ : World) (v : Value) : Prop := ∃ (s : ByteArray) (a b c : Int), v = .agg #[.string s, .int .i64 a, .int .i64 b, .int .i64 c]
def ShSt (_ : World) (v : Value) : Prop := ∃ (kind : Int) (nm : ByteArray) (A1 : Option Addr) (l1 c1 : Nat) (lo hi : Int) (A2 : Option Addr) (l2 c2 : Nat) (A3 : Option Addr) (l3 c3 : Nat),
  v = .agg #[.int .i64 kind, .string nm, .slice A1 l1 c1, .int .i64 lo, .int .i64 hi, .slice A2 l2 c2, .slice A3 l3 c3]
def IsU (_ : World) (_ : Unit) (_ : Value) : Prop := True
def ShU (_ : World) (v : Value) : Prop := v = .tuple #[]
theorem IsRow.kept {α : Type} {s : Nat} {Q : Cel α} (hq : QKept Q) {b b' : Nat} {S : Nat → Prop} {w w' : World} {l : List α} {v : Value} (h : IsRow s Q b w l v) (hb : b' ≤ b) (hk : Kept S w w') (hs : ∀ k, k < w.heap.size → b ≤ k → ¬ S k) : IsRow s Q b' w' l v := by
  obtain ⟨A, n, c, h1, h2⟩ := h
  exact ⟨A, n, c, h1, h2.kept hk hs (fun k _ h => by omega) (fun cs a h => hq _ _ S w w' cs a hk hs (fun k _ h => by omega) h)⟩
theorem IsEl.kept {α : Type} {Q : Cel α} (hq : QKept Q) {b b' : Nat} {S : Nat → Prop} {w w' : World} {a : α} {v : Value} (h : IsEl Q b w a v) (hb : b' ≤ b) (hk : Kept S w w') (hs : ∀ k, k < w.heap.size → b ≤ k → ¬ S k) : IsEl Q b' w' a v := by
  obtain ⟨cs, h1, h2⟩ := h
  exact ⟨cs, h1, hq _ _ S w w' cs a hk hs (fun k _ h => by omega) h2⟩
/-- The call's own row of such elements. -/
def OwnA {α : Type} (s : Nat) (Q : Cel α) (w : World) (base : Nat) (t : TypeId) (v : Value) (l : List α) : Prop :=
  ∃ ys : List Value, w.ownsRow base t s v l.length ys ∧ ys.length = l.length * s ∧ (∀ u ∈ ys, u.oneCell' = true) ∧ ∀ i (h : i < l.length), Q (fun z => base ≤ z ∧ v.ownBlock ≠ some z) w ((ys.drop (i * s)).take s) (l[i]'h)
theorem OwnA.nil {α : Type} (s : Nat) (Q : Cel α) (w : World) (base : Nat) (t : TypeId) : OwnA s Q w base t (.slice none 0 0) ([] : List α) := ⟨[], World.ownsRow_nil _ _ _ _, by simp, by simp, fun i hi => by simp at hi⟩
theorem OwnA.slice {α : Type} {s : Nat} {Q : Cel α} {w : World} {base : Nat} {t : TypeId} {v : Value} {l : List α} (h : OwnA s Q w base t v l) : ∃ A c, v = .slice A l.length c := by
  obtain ⟨ys, h1, _, _, _⟩ := h
  obtain ⟨A, c, hv, _⟩ := own_is h1
  exact ⟨A, c, hv⟩
theorem OwnA.row {α : Type} {s : Nat} {Q : Cel α} (hq : QKept Q) {w : World} {base : Nat} {t : TypeId} {v : Value} {l : List α} (h : OwnA s Q w base t v l) (hM : l.length ≤ 2513169434843) : IsRow s Q base w l v := by
  obtain ⟨ys, h1, h2, _, h3⟩ := h
  obtain ⟨A, c, rfl, hb⟩ := own_is h1
  refine ⟨A, _, c, rfl, ys, Reads.of_own h1, fun hn a ha => own_ge h1 _ (hb a hn ha), hM, rfl, fun i hi => ?_⟩
  exact hq _ _ (fun _ => False) w w _ _ (Kept.refl _ w) (fun _ _ _ h => h) (fun _ _ h => h.1) (h3 i hi)
theorem chunk_oldS {ys cs : List Value} {k i s : Nat} (h : ys.length = k * s) (hi : i < k) : ((ys ++ cs).drop (i * s)).take s = (ys.drop (i * s)).take s := by
  have : i * s + s ≤ k * s := by
    have := Nat.mul_le_mul_right s (show i + 1 ≤ k by omega)
    rw [Nat.add_mul, Nat.one_mul] at this
    exact this
  rw [List.drop_append_of_le_length (by omega), List.take_append_of_le_length (by rw [List.length_drop]; omega)]
theorem chunk_newS {ys cs : List Value} {k s : Nat} (h : ys.length = k * s) (hc : cs.length = s) : ((ys ++ cs).drop (k * s)).take s = cs := by
  rw [List.drop_append_of_le_length (by omega), List.drop_of_length_le (by omega), List.nil_append, List.take_of_length_le (by omega)]
/-- One more. -/
theorem OwnA.push {α : Type} {s : Nat} {Q : Cel α} (hq : QKept Q) {w w' : World} {base : Nat} {t : TypeId} {v v' : Value} {l : List α} {a : α} {ys cs : List Value} {D : Nat → Prop} (ho : w'.ownsRow base t s v' (l.length + 1) (ys ++ cs)) (h2 : ys.length = l.length * s) (hc : cs.length = s) (h1 : ∀ u ∈ ys, u.oneCell' = true) (hc1 : ∀ u ∈ cs, u.oneCell' = true)
    (hold : ∀ i (h : i < l.length), Q (fun z => base ≤ z ∧ v.ownBlock ≠ some z) w ((ys.drop (i * s)).take s) (l[i]'h)) (hk : Kept (fun z => z < base ∨ v.ownBlock = some z) w w') (hv : ∀ k, k < w.heap.size → v.ownBlock ≠ some k → v'.ownBlock ≠ some k)
    (hnew : Q D w' cs a) (hD : ∀ k, k < w'.heap.size → D k → base ≤ k ∧ v'.ownBlock ≠ some k) : OwnA s Q w' base t v' (l ++ [a]) := by
  refine ⟨ys ++ cs, by rw [List.length_append, List.length_singleton]; exact ho, by rw [List.length_append, hc, h2, List.length_append, List.length_singleton, Nat.add_mul, Nat.one_mul], fun u hu => (List.mem_append.1 hu).elim (h1 u) (hc1 u), fun i hi => ?_⟩
  rw [List.length_append, List.length_singleton] at hi
  rcases Nat.lt_or_ge i l.length with h | h
  · rw [List.getElem_append_left h, chunk_oldS h2 h]
    exact hq _ _ _ w w' _ _ hk (fun k _ hd e => e.elim (fun e => by omega) hd.2) (fun k hk hd => ⟨hd.1, hv k hk hd.2⟩) (hold i h)
  · obtain rfl : i = l.length := by omega
    rw [List.getElem_append_right (by omega), chunk_newS h2 hc]
    have := hq _ _ (fun _ => False) w' w' _ _ (Kept.refl _ w') (fun _ _ _ h => h) hD hnew
    simpa using this
theorem Reads.same {w : World} {B B' s n : Nat} {A : Option Addr} {xs ys : List Value} (h : Reads w B s A n xs) (k : Reads w B' s A n ys) : xs = ys := by
  rcases Nat.eq_zero_or_pos n with h0 | h0
  · subst h0
    rw [List.eq_nil_of_length_eq_zero (l := xs) (by simpa using h.1), List.eq_nil_of_length_eq_zero (l := ys) (by simpa using k.1)]
  · obtain ⟨a, ha, _, hc⟩ := h.2 h0
    obtain ⟨b, hb, _, kc⟩ := k.2 h0
    rw [ha] at hb
    cases hb
    refine List.ext_getElem (h.1.trans k.1.symm) (fun j h1 h2 => ?_)
    have e1 := hc j _ (List.getElem?_eq_getElem h1)
    have e2 := kc j _ (List.getElem?_eq_getElem h2)
    exact Option.some.inj (e1.symm.trans e2)
theorem own_keptS {w w' : World} {base size n : Nat} {e : TypeId} {v : Value} {xs : List Value} {T : Nat → Prop} (h : w.ownsRow base e size v n xs) (hk : Kept T w w') (hs : ∀ k, v.ownBlock = some k → ¬ T k) : w'.ownsRow base e size v n xs := by
  refine ⟨h.1, ?_⟩
  rcases h.2 with h2 | ⟨g, cap, cur, hv, hg, hh, r⟩
  · exact .inl h2
  · have hlt : g < w.heap.size := Blk.lt (t := e) (cs := cur) hh
    exact .inr ⟨g, cap, cur, hv, hg, (hk.block g hlt (hs g (by rw [hv]; rfl))).trans hh, r⟩
end Go.Proofs.YtdgekckedchjbaaGreatDoor
namespace Go.Proofs.YtdgekckedchjbaaGreatDoor
open Go.RowKit

theorem PsAt.ok_iff {α : Type} {ts : List Tk} {i : Nat} {er : Int} {p : PS α} {Q : α → Prop} (h : PsAt ts i er p Q) (he : er = 0) : ∃ a, p = .ok a (ts.drop i) ∧ Q a := by
  cases p with
  | ok a r => exact ⟨a, by rw [h.1], h.2.2⟩
  | bad r e => exact absurd he h.2.2
theorem PsAt.bad_iff {α : Type} {ts : List Tk} {i : Nat} {er : Int} {p : PS α} {Q : α → Prop} (h : PsAt ts i er p Q) (he : er ≠ 0) : p = .bad (ts.drop i) er := by
  cases p with
  | ok a r => exact absurd h.2.1 he
  | bad r e => rw [h.1, h.2.1]
/-- Each one takes a token at least. -/
def EatsP {α : Type} (one : List Tk → PS α) : Prop := ∀ r a r', one r = .ok a r' → r'.length < r.length
/-- Where a list stands: what is read, and what is to come. -/
def LJ {α : Type} (s : Nat) (Q : Cel α) (t : TypeId) (base : Nat) (ts : List Tk) (more : List Tk → Bool) (one : List Tk → PS α) (goal : PS (List α)) (v : Value) (wr : World) (j : Nat) (er : Int) : Prop :=
  (er = 0 ∧ ∃ (acc : List α) (f : Nat), OwnA s Q wr base t v acc ∧ (ts.drop j).length ≤ f ∧ goal = listP more one f acc (ts.drop j) ∧ acc.length ≤ j) ∨ (er ≠ 0 ∧ (∃ (n : Nat) (ys : List Value), wr.ownsRow base t s v n ys ∧ (∀ u ∈ ys, u.oneCell' = true) ∧ n ≤ 100000) ∧ goal = .bad (ts.drop j) er)
theorem LJ.start {α : Type} (s : Nat) (Q : Cel α) (t : TypeId) (base : Nat) (ts : List Tk) (more : List Tk → Bool) (one : List Tk → PS α) (w : World) (j : Nat) (er : Int) : LJ s Q t base ts more one (stP (fun r => listP more one r.length [] r) ts j er) (.slice none 0 0) w j er := by
  by_cases he : er = 0
  · subst he
    exact .inl ⟨rfl, [], _, OwnA.nil _ _ _ _ _, Nat.le_refl _, by unfold stP; rw [if_pos rfl], by simp⟩
  · exact .inr ⟨he, ⟨0, [], World.ownsRow_nil _ _ _ _, by simp, by omega⟩, by unfold stP; rw [if_neg he]⟩
theorem LJ.done {α : Type} {s : Nat} {Q : Cel α} {t : TypeId} {base : Nat} {ts : List Tk} {more : List Tk → Bool} {one : List Tk → PS α} {goal : PS (List α)} {v : Value} {wr w : World} {j : Nat} {er : Int} (hq : QKept Q) (h : LJ s Q t base ts more one goal v wr j er) (hj : j ≤ 100000) (hm : stB more ts j er = false) (hk : Kept (fun _ => False) wr w) : ShR s w v ∧ PsAt ts j er goal (fun l => IsRow s Q base w l v) := by
  rcases h with ⟨rfl, acc, f, ho, hf, rfl, hl⟩ | ⟨he, hs, rfl⟩
  · refine ⟨?_, ?_⟩
    · obtain ⟨ys, o1, o2, o3, _⟩ := ho
      obtain ⟨A, c, rfl, _⟩ := own_is o1
      exact ⟨A, _, c, ys, rfl, (Reads.of_own o1).keptfar hk (fun _ _ h => h), o3, by omega⟩
    have hm' : more (ts.drop j) = false := by
      unfold stB at hm
      simpa using hm
    have e1 : listP more one f acc (ts.drop j) = .ok acc (ts.drop j) := by
      cases f with
      | zero => rfl
      | succ f => simp only [listP]; rw [hm']; rfl
    rw [e1]
    exact ⟨rfl, rfl, (ho.row hq (by omega)).kept hq (Nat.le_refl _) hk (fun _ _ _ h => h)⟩
  · obtain ⟨n, ys, o1, o3, hn⟩ := hs
    obtain ⟨A, c, rfl, _⟩ := own_is o1
    exact ⟨⟨A, n, c, ys, rfl, (Reads.of_own o1).keptfar hk (fun _ _ h => h), o3, hn⟩, rfl, rfl, he⟩
/-- The list's measure. -/
def LM (ts : List Tk) (g : Nat) (w : World) : Nat := match w.cell? ⟨g, 8, none⟩, w.cell? ⟨g, 1, none⟩ with
  | some (.int _ e), some (.int _ j) => if e = 0 then 1 + (ts.length - j.toNat) else 0
  | _, _ => 0
/-- What the round's end gives: the list has one more, or it is wrong. -/
theorem LJ.next {α : Type} {s : Nat} {Q : Cel α} (hq : QKept Q) {t : TypeId} {base : Nat} {ts : List Tk} {more : List Tk → Bool} {one : List Tk → PS α} {goal : PS (List α)} {v v8 : Value} {wr w2 w8 : World} {j j2 f : Nat} {er2 : Int} {acc : List α} {ys cs : List Value} {R : α → Prop}
    (hm : more (ts.drop j) = true) (heat : EatsP one) (hjl : j < ts.length) (hj2 : j2 < ts.length) (hf : (ts.drop j).length ≤ f) (hg : goal = listP more one f acc (ts.drop j)) (hl : acc.length ≤ j) (hps : PsAt ts j2 er2 (one (ts.drop j)) R)
    (hR : ∀ a, R a → Q (fun k => wr.heap.size ≤ k ∧ k < w2.heap.size) w8 cs a) (hyl : ys.length = acc.length * s) (hcs : cs.length = s) (h1 : ∀ u ∈ ys, u.oneCell' = true) (hc1 : ∀ u ∈ cs, u.oneCell' = true) (hlim : ts.length ≤ 70000) (hold : ∀ i (h : i < acc.length), Q (fun z => base ≤ z ∧ v.ownBlock ≠ some z) wr ((ys.drop (i * s)).take s) (acc[i]'h))
    (ho8 : w8.ownsRow base t s v8 (acc.length + 1) (ys ++ cs)) (hk : Kept (fun z => z < base ∨ v.ownBlock = some z) wr w8) (hown : ∀ k, v.ownBlock = some k → k < wr.heap.size) (hat : v8.ownBlock = v.ownBlock ∨ ∃ z, v8.ownBlock = some z ∧ w2.heap.size ≤ z) (hb : base ≤ wr.heap.size) (hz2 : wr.heap.size ≤ w2.heap.size) :
    LJ s Q t base ts more one goal v8 w8 j2 er2 := by
  by_cases he : er2 = 0
  · subst he
    obtain ⟨a, ha, hQ⟩ := hps.ok_iff rfl
    have hlt := heat _ _ _ ha
    rw [List.length_drop, List.length_drop] at hlt
    refine .inl ⟨rfl, acc ++ [a], f - 1, ?_, ?_, ?_, ?_⟩
    · refine OwnA.push hq ho8 hyl hcs h1 hc1 hold hk (fun k hk' hne e => ?_) (hR a hQ) (fun k _ hd => ⟨by omega, fun e => ?_⟩)
      · rcases hat with h | ⟨z, h, hz⟩
        · exact hne (h ▸ e)
        · rw [h] at e
          have := Option.some.inj e
          omega
      · rcases hat with h | ⟨z, h, hz⟩
        · have := hown k (h ▸ e)
          omega
        · rw [h] at e
          have := Option.some.inj e
          omega
    · rw [List.length_drop] at hf ⊢
      omega
    · rw [hg]
      rw [List.length_drop] at hf
      obtain ⟨f', rfl⟩ : ∃ f', f = f' + 1 := ⟨f - 1, by omega⟩
      simp only [listP]
      rw [hm, ha]
      rfl
    · rw [List.length_append, List.length_singleton]
      omega
  · refine .inr ⟨he, ?_, ?_⟩
    · exact ⟨_, _, ho8, fun u hu => (List.mem_append.1 hu).elim (h1 u) (hc1 u), by omega⟩
    · rw [hg]
      rw [List.length_drop] at hf
      obtain ⟨f', rfl⟩ : ∃ f', f = f' + 1 := ⟨f - 1, by omega⟩
      simp only [listP]
      rw [hm, hps.bad_iff he]
      rfl

end Go.Proofs.YtdgekckedchjbaaGreatDoor
namespace Go.Proofs.YtdgekckedchjbaaGreatDoor
open Go.RowKit

/-- Nothing is read, and the answer is the zero expression. -/
def Dumb (w : World) (g c : Nat) (A : Option Addr) (m : Nat → Nat) (ts : List Tk) (i : Nat) (dp er : Int) (e : Ending) (w' : World) : Prop :=
  e = .returned (.agg #[.int .i64 0, .int .i64 0, .string ⟨#[]⟩, .slice none 0 0]) ∧ Kept (fun z => z = g) w w' ∧ Par w' g A c m ts i dp er
/-- What is asked of join there. -/
def JDumb (g c : Nat) (A : Option Addr) (m : Nat → Nat) (ts : List Tk) (i : Nat) (dp er : Int) (k : Nat) : Prop :=
  ∀ (deep lv : Int) (w : World), lv + (k : Int) = 5 → Par w g A c m ts i dp er → Calls Tryz.prog 77 #[.pointer (some ⟨g, 0, none⟩), .int .i64 lv, .int .i64 deep] w (Dumb w g c A m ts i dp er)
end Go.Proofs.YtdgekckedchjbaaGreatDoor
