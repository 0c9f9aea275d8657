
/-
  The form of a program's text: its lines. No program is named here.
-/
import Derived.Test.YtdgekckedchjbaaGreatDoorQO
import Derived.Test.YtdgekckedchjbaaGreatDoorQQ
namespace Go.Proofs.YtdgekckedchjbaaGreatDoor

/-- A text with neither blank nor line feed, and without the sign of a comment. -/
def Wd (w : List UInt8) : Prop := w ≠ [] ∧ ∀ c ∈ w, c ≠ 32 ∧ c ≠ 10 ∧ c ≠ 35
/-- Words with one blank between two. -/
inductive Clean : List UInt8 → Prop
  | word {w : List UInt8} : Wd w → Clean w
  | more {w r : List UInt8} : Wd w → Clean r → Clean (w ++ 32 :: r)
theorem Clean.cat {a b : List UInt8} (ha : Clean a) (hb : Clean b) : Clean (a ++ 32 :: b) := by
  induction ha with
  | word h => exact .more h hb
  | more h _ ih => rw [List.append_assoc, List.cons_append]; exact .more h ih
theorem Clean.no10 {a : List UInt8} (h : Clean a) : ∀ c ∈ a, c ≠ 10 := by
  induction h with
  | word h => exact fun c hc => (h.2 c hc).2.1
  | more h _ ih =>
    intro c hc
    rcases List.mem_append.1 hc with hc | hc
    · exact (h.2 c hc).2.1
    · rcases List.mem_cons.1 hc with rfl | hc
      · decide
      · exact ih c hc
theorem Clean.no35 {a : List UInt8} (h : Clean a) : ∀ c ∈ a, c ≠ 35 := by
  induction h with
  | word h => exact fun c hc => (h.2 c hc).2.2
  | more h _ ih =>
    intro c hc
    rcases List.mem_append.1 hc with hc | hc
    · exact (h.2 c hc).2.2
    · rcases List.mem_cons.1 hc with rfl | hc
      · decide
      · exact ih c hc
theorem Clean.ne {a : List UInt8} (h : Clean a) : a ≠ [] := by
  cases h with
  | word h => exact h.1
  | more h _ => simp
theorem Clean.head {a : List UInt8} (h : Clean a) : ∀ c, a[0]? = some c → c ≠ 32 := by
  intro c hc
  cases h with
  | word h => exact (h.2 c (List.mem_of_getElem? hc)).1
  | @more w r h _ =>
    cases w with
    | nil => exact absurd rfl h.1
    | cons a w =>
      rw [List.cons_append, List.getElem?_cons_zero] at hc
      injection hc with hc
      subst hc
      exact (h.2 _ (List.mem_cons_self ..)).1
theorem Clean.last {a : List UInt8} (h : Clean a) : ∀ c, a[a.length - 1]? = some c → c ≠ 32 := by
  induction h with
  | word h => exact fun c hc => (h.2 c (List.mem_of_getElem? hc)).1
  | @more w r h hr ih =>
    intro c hc
    have := List.length_pos_iff.2 hr.ne
    rw [List.getElem?_append_right (by simp)] at hc
    have e : (w ++ 32 :: r).length - 1 - w.length = (r.length - 1) + 1 := by simp; omega
    rw [e, List.getElem?_cons_succ] at hc
    exact ih c hc
theorem Clean.two {a : List UInt8} (h : Clean a) : ∀ k : Nat, a[k]? = some (32 : UInt8) → a[k + 1]? ≠ some (32 : UInt8) := by
  induction h with
  | word h => exact fun k hk => absurd rfl (h.2 _ (List.mem_of_getElem? hk)).1
  | @more w r h hr ih =>
    intro k hk h2
    rcases Nat.lt_or_ge k w.length with hkw | hkw
    · rw [List.getElem?_append_left hkw] at hk
      exact absurd rfl (h.2 _ (List.mem_of_getElem? hk)).1
    · obtain ⟨j, rfl⟩ : ∃ j, k = w.length + j := ⟨k - w.length, by omega⟩
      rw [List.getElem?_append_right (by omega), show w.length + j + 1 - w.length = j + 1 by omega, List.getElem?_cons_succ] at h2
      rw [List.getElem?_append_right (by omega), show w.length + j - w.length = j by omega] at hk
      cases j with
      | zero => exact hr.head _ h2 rfl
      | succ j =>
        rw [List.getElem?_cons_succ] at hk
        exact ih j hk h2
theorem Clean.join {xs : List (List UInt8)} (h0 : xs ≠ []) (h : ∀ x ∈ xs, Clean x) : Clean (Lib.join xs [32]) := by
  unfold Lib.join
  induction xs with
  | nil => exact absurd rfl h0
  | cons a l ih =>
    cases l with
    | nil => simpa [List.intercalate] using h a (List.mem_cons_self ..)
    | cons b l =>
      rw [List.intercalate_cons_cons, List.append_assoc]
      exact (h a (List.mem_cons_self ..)).cat (ih (by simp) fun x hx => h x (List.mem_cons_of_mem _ hx))
theorem Wd.clean {w : List UInt8} (h : Wd w) : Clean w := .word h
theorem dec_wd (u : Nat) : Wd (Lib.decDigits u) := by
  have key : ∀ i, i < 10 → UInt8.ofNat (48 + i) ≠ 32 ∧ UInt8.ofNat (48 + i) ≠ 10 ∧ UInt8.ofNat (48 + i) ≠ 35 := by decide
  induction u using Nat.strongRecOn with
  | ind u ih =>
    by_cases h : u < 10
    · rw [Lib.decDigits_one h]
      refine ⟨by simp, fun c hc => ?_⟩
      obtain rfl := List.mem_singleton.1 hc
      exact key u h
    · rw [Lib.decDigits, dif_neg h]
      refine ⟨by simp, fun c hc => ?_⟩
      rcases List.mem_append.1 hc with hc | hc
      · exact (ih (u / 10) (by omega)).2 c hc
      · obtain rfl := List.mem_singleton.1 hc
        exact key (u % 10) (by omega)
theorem itoa_wd (n : Int) : Wd (Lib.itoa n) := by
  unfold Lib.itoa
  split
  · refine ⟨by simp, fun c hc => ?_⟩
    rcases List.mem_cons.1 hc with rfl | hc
    · decide
    · exact (dec_wd _).2 c hc
  · exact dec_wd _
theorem NameP.wd {s : List UInt8} (h : NameP s) : Wd s := by
  refine ⟨h.1, fun c hc => ?_⟩
  have := h.2.2.1 c hc
  refine ⟨fun e => ?_, fun e => ?_, fun e => ?_⟩ <;> rw [e] at this <;> revert this <;> decide
theorem Wd.cat {a b : List UInt8} (ha : Wd a) (hb : ∀ c ∈ b, c ≠ 32 ∧ c ≠ 10 ∧ c ≠ 35) : Wd (a ++ b) := by
  refine ⟨by simp [ha.1], fun c hc => ?_⟩
  rcases List.mem_append.1 hc with hc | hc
  · exact ha.2 c hc
  · exact hb c hc
theorem paren_clean {s : List UInt8} (h : Clean s) : Clean ([40, 32] ++ s ++ [32, 41]) := by
  have h1 : Clean [40] := .word ⟨by decide, by decide⟩
  have h2 : Clean [41] := .word ⟨by decide, by decide⟩
  have := h1.cat (h.cat h2)
  simpa using this
theorem operO_clean {op t : Int} {o : Option (List UInt8)} {s : List UInt8} (h : ∀ s, o = some s → Clean s) (e : operO op t o = some s) : Clean s := by
  unfold operO at e
  split at e
  · cases o with
    | none => cases e
    | some s' =>
      injection e with e
      subst e
      exact paren_clean (h _ rfl)
  · exact h _ e
theorem mark_wd {op : Int} (h0 : 3 ≤ op) (h : op < 18) : Wd (markN op) := by
  have key : ∀ m, m < 15 → Wd (markN ((m : Nat) + 3 : Int)) := by
    intro m hm
    unfold Wd
    revert m
    decide
  have := key (op - 3).toNat (by omega)
  rwa [show (((op - 3).toNat : Nat) + 3 : Int) = op by omega] at this
theorem rawE_clean : ∀ (e : Ex) (t : List UInt8), EvE NameP NumP e → rawE e.gx = some t → Clean t
  | .num n, t, _, h => by
    simp [Ex.gx, rawE, partsN] at h
    subst h
    exact (itoa_wd n).clean
  | .nam s, t, hp, h => by
    simp [Ex.gx, rawE, partsN] at h
    subst h
    exact (NameP.wd hp).clean
  | .idx s e, t, hp, h => by
    simp [Ex.gx, rawE, partsN] at h
    obtain ⟨u, hu, rfl⟩ := h
    have h1 : Clean [91] := .word ⟨by decide, by decide⟩
    have h2 : Clean [93] := .word ⟨by decide, by decide⟩
    have := (NameP.wd hp.1).clean.cat (h1.cat ((rawE_clean e u hp.2 hu).cat h2))
    rw [str_list]
    simpa using this
  | .neg e, t, hp, h => by
    simp [Ex.gx, rawE, partsN] at h
    obtain ⟨u, hu, rfl⟩ := h
    have := (mark_wd (op := 3) (by decide) (by decide)).clean.cat (operO_clean (fun s hs => rawE_clean e s hp hs) hu)
    simpa using this
  | .non e, t, hp, h => by
    simp [Ex.gx, rawE, partsN] at h
    obtain ⟨u, hu, rfl⟩ := h
    have := (mark_wd (op := 4) (by decide) (by decide)).clean.cat (operO_clean (fun s hs => rawE_clean e s hp hs) hu)
    simpa using this
  | .bin op a b, t, hp, h => by
    rw [Ex.gx, rawE] at h
    split at h
    · rename_i hc
      obtain ⟨u, v, hu, hv, rfl⟩ := ocat_some_iff h
      obtain ⟨m, v2, hm, hv2, rfl⟩ := ocat_some_iff hv
      injection hm with hm
      subst hm
      have h5 : 5 ≤ op := by
        have := hc.2.2
        unfold partsN at this
        split at this
        · simp at this
        · split at this
          · simp at this
          · omega
      have := (operO_clean (fun s hs => rawE_clean a s hp.1 hs) hu).cat ((mark_wd (op := op) (by omega) hc.2.1).clean.cat (operO_clean (fun s hs => rawE_clean b s hp.2 hs) hv2))
      simpa using this
    · cases h
/-- The words that end what stands deeper, and those that begin it. -/
def closesW (w : List UInt8) : Bool := decide (w = [101, 110, 100] ∨ w = [101, 108, 115, 101])
def opensW (w : List UInt8) (d : Nat) : Bool :=
  decide (w = [115, 116, 97, 114, 116] ∨ w = [116, 117, 114, 110] ∨ w = [112, 108, 97, 121] ∨ w = [115, 105, 108, 101, 110, 116] ∨ (w = [112, 97, 121] ∧ d = 0) ∨ w = [105, 102] ∨ w = [102, 111, 114] ∨ w = [101, 108, 115, 101])
def firstW (b : List UInt8) : List UInt8 := b.takeWhile (· != 32)
/-- A line that stands as deep as it has to. -/
def LineOk (d d' : Nat) (l : List UInt8) : Prop :=
  ∃ (d1 : Nat) (b : List UInt8), l = blanks d1 ++ b ∧ Clean b ∧ d = (if closesW (firstW b) then d1 + 1 else d1) ∧ d' = (if opensW (firstW b) d1 then d1 + 1 else d1)
inductive FormS : Nat → Nat → List UInt8 → Prop
  | nil (d : Nat) : FormS d d []
  | line {d d' e : Nat} {l r : List UInt8} : LineOk d d' l → FormS d' e r → FormS d e (l ++ 10 :: r)
theorem FormS.cat {a b c : Nat} {s t : List UInt8} (h : FormS a b s) (k : FormS b c t) : FormS a c (s ++ t) := by
  induction h with
  | nil => exact k
  | line hl _ ih => rw [List.append_assoc, List.cons_append]; exact .line hl (ih k)
theorem blanks_mem : ∀ (d : Nat), ∀ c ∈ blanks d, c = 32
  | 0, c, hc => by simp [blanks, Lib.repeatL] at hc
  | d + 1, c, hc => by
    rw [blanks, Lib.repeatL] at hc
    rcases List.mem_append.1 hc with hc | hc
    · simpa using hc
    · exact blanks_mem d c hc
theorem FormS.no35 {d e : Nat} {l : List UInt8} (h : FormS d e l) : ∀ c ∈ l, c ≠ 35 := by
  induction h with
  | nil => simp
  | line hl _ ih =>
    intro c hc
    obtain ⟨d1, b, rfl, hb, -, -⟩ := hl
    rcases List.mem_append.1 hc with hc | hc
    · rcases List.mem_append.1 hc with hc | hc
      · rw [blanks_mem d1 c hc]
        decide
      · exact hb.no35 c hc
    · rcases List.mem_cons.1 hc with rfl | hc
      · decide
      · exact ih c hc
theorem firstW_join {w : List UInt8} (hw : Wd w) (ps : List (List UInt8)) : firstW (Lib.join (w :: ps) [32]) = w := by
  have h : ∀ r : List UInt8, (w ++ 32 :: r).takeWhile (· != 32) = w := fun r => by
    rw [List.takeWhile_append_of_pos (fun c hc => by simpa using (hw.2 c hc).1)]
    simp
  unfold firstW Lib.join
  cases ps with
  | nil =>
    have := h []
    rw [List.takeWhile_append_of_pos (fun c hc => by simpa using (hw.2 c hc).1)] at this
    have e : [32].intercalate [w] = w ++ [] := by simp [List.intercalate]
    rw [e, List.takeWhile_append_of_pos (fun c hc => by simpa using (hw.2 c hc).1)]
    simp
  | cons b l =>
    rw [List.intercalate_cons_cons, List.append_assoc]
    exact h _
theorem line_form {a b d : Nat} {w : List UInt8} {ps : List (List UInt8)} (hw : Wd w) (hps : ∀ p ∈ ps, Clean p) (ha : a = if closesW w then d + 1 else d) (hb : b = if opensW w d then d + 1 else d) : FormS a b (lineB d (w :: ps)) := by
  unfold lineB
  rw [show blanks d ++ Lib.join (w :: ps) [32] ++ [10] = (blanks d ++ Lib.join (w :: ps) [32]) ++ 10 :: [] by simp]
  refine .line ⟨d, _, rfl, Clean.join (by simp) (fun p hp => ?_), ?_, ?_⟩ (.nil _)
  · rcases List.mem_cons.1 hp with rfl | hp
    · exact hw.clean
    · exact hps p hp
  · rw [firstW_join hw]; exact ha
  · rw [firstW_join hw]; exact hb
theorem name_form {d : Nat} {w : List UInt8} {ps : List (List UInt8)} (hw : NameP w) (hps : ∀ p ∈ ps, Clean p) : FormS d d (lineB d (w :: ps)) := by
  have hn := hw.2.2.2.2
  have h1 : closesW w = false := by
    unfold closesW
    refine decide_eq_false fun h => hn ?_
    rcases h with rfl | rfl <;> decide
  have h2 : opensW w d = false := by
    unfold opensW
    refine decide_eq_false fun h => hn ?_
    rcases h with rfl | rfl | rfl | rfl | ⟨rfl, _⟩ | rfl | rfl | rfl <;> decide
  exact line_form hw.wd hps (by rw [h1]; rfl) (by rw [h2]; rfl)
theorem rawEs_clean {E : List Ex} {T : List (List UInt8)} (hE : ∀ e ∈ E, EvE NameP NumP e) (h : rawEs (E.map Ex.gx) = some T) : ∀ t ∈ T, Clean t := by
  induction E generalizing T with
  | nil =>
    rw [List.map_nil, rawEs] at h
    injection h with h
    subst h
    simp
  | cons e E ih =>
    rw [List.map_cons, rawEs] at h
    cases hg : rawE e.gx with
    | none => rw [hg] at h; cases h
    | some a =>
      cases hl : rawEs (E.map Ex.gx) with
      | none => rw [hg, hl] at h; cases h
      | some b =>
        rw [hg, hl] at h
        injection h with h
        subst h
        intro t ht
        rcases List.mem_cons.1 ht with rfl | ht
        · exact rawE_clean e t (hE e (List.mem_cons_self ..)) hg
        · exact ih (fun e he => hE e (List.mem_cons_of_mem _ he)) hl t ht
theorem payB_clean {t : List UInt8} (h : Clean t) : Clean (payB t) := by
  unfold payB
  split
  · exact paren_clean h
  · exact h
theorem rd_clean {T : List (List UInt8)} (h : ∀ t ∈ T, Clean t) {i : Nat} (hi : i < T.length) : Clean (T.getD i []) := by
  rw [List.getD_eq_getElem?_getD, List.getElem?_eq_getElem hi]
  exact h _ (List.getElem_mem _)
theorem end_form (d : Nat) : FormS (d + 1) d (lineB d [[101, 110, 100]]) := line_form (by refine ⟨by decide, by decide⟩) (by simp) (by rw [if_pos (by decide)]) (by rw [if_neg (by simp [opensW])])
mutual
theorem rawS_form : ∀ (s : St) (d : Nat) (t : List UInt8), EvS NameP NumP s → 1 ≤ d → rawS d s.sx = some t → FormS d d t
  | .mk k nm E lo hi L El, d, t, hp, hd, h => by
    rw [St.sx, rawS] at h
    obtain ⟨hnm, hE, -, -, hL, hEl⟩ := hp
    split at h
    · rename_i hc
      cases hT : rawEs (E.map Ex.gx) with
      | none => rw [hT] at h; cases h
      | some T =>
        rw [hT] at h
        simp only at h
        have hcl := rawEs_clean hE hT
        have hTl := (rawEs_len hT).trans hc.2.2
        have h61 : Clean [61] := .word (by refine ⟨by decide, by decide⟩)
        have h91 : Clean [91] := .word (by refine ⟨by decide, by decide⟩)
        have h93 : Clean [93, 32, 61] := by
          have := (Clean.word (w := [93]) (by refine ⟨by decide, by decide⟩)).cat h61
          simpa using this
        by_cases k0 : k = 0
        · subst k0
          rw [if_pos rfl] at h
          injection h with h
          subst h
          have hn : NameP nm := hnm.resolve_right (by simp)
          have h0 := rd_clean hcl (i := 0) (by rw [hTl]; decide)
          exact name_form hn (by
            intro p hp
            simp only [List.mem_cons, List.not_mem_nil, or_false] at hp
            rcases hp with rfl | rfl <;> assumption)
        rw [if_neg k0] at h
        by_cases k1 : k = 1
        · subst k1
          rw [if_pos rfl] at h
          injection h with h
          subst h
          have hn : NameP nm := hnm.resolve_right (by simp)
          have h0 := rd_clean hcl (i := 0) (by rw [hTl]; decide)
          have h1 := rd_clean hcl (i := 1) (by rw [hTl]; decide)
          exact name_form hn (by
            intro p hp
            simp only [List.mem_cons, List.not_mem_nil, or_false] at hp
            rcases hp with rfl | rfl | rfl | rfl <;> assumption)
        rw [if_neg k1] at h
        by_cases k2 : k = 2
        · subst k2
          rw [if_pos rfl] at h
          have h0 := rd_clean hcl (i := 0) (by rw [hTl]; decide)
          obtain ⟨a, r1, ha, h1, rfl⟩ := ocat_some_iff h
          obtain ⟨b, r2, hb, h2, rfl⟩ := ocat_some_iff h1
          obtain ⟨c, z, hcc, h3, rfl⟩ := ocat_some_iff h2
          clear h h1 h2
          injection ha with ha
          injection h3 with h3
          subst ha h3
          have hth : Clean [116, 104, 101, 110] := .word (by refine ⟨by decide, by decide⟩)
          have f1 : FormS d (d + 1) (lineB d [[105, 102], T.getD 0 [], [116, 104, 101, 110]]) := line_form (by refine ⟨by decide, by decide⟩) (by
            intro p hp
            simp only [List.mem_cons, List.not_mem_nil, or_false] at hp
            rcases hp with rfl | rfl <;> assumption) (by rw [if_neg (by decide)]) (by rw [if_pos (by simp [opensW])])
          have f2 := rawB_form L (d + 1) b hL (by omega) hb
          have f3 : FormS (d + 1) (d + 1) c := by
            by_cases hz : (sxs El).length = 0
            · rw [if_pos hz] at hcc
              injection hcc with hcc
              subst hcc
              exact .nil _
            · rw [if_neg hz] at hcc
              obtain ⟨u, v, hu, hv, rfl⟩ := ocat_some_iff hcc
              injection hu with hu
              subst hu
              have f : FormS (d + 1) (d + 1) (lineB d [[101, 108, 115, 101]]) := line_form (by refine ⟨by decide, by decide⟩) (by simp) (by rw [if_pos (by decide)]) (by rw [if_pos (by simp [opensW])])
              exact f.cat (rawB_form El (d + 1) v hEl (by omega) hv)
          exact f1.cat (f2.cat (f3.cat (end_form d)))
        rw [if_neg k2] at h
        by_cases k3 : k = 3
        · subst k3
          rw [if_pos rfl] at h
          obtain ⟨a, r1, ha, h1, rfl⟩ := ocat_some_iff h
          obtain ⟨b, z, hb, h2, rfl⟩ := ocat_some_iff h1
          clear h h1
          injection ha with ha
          injection h2 with h2
          subst ha h2
          have hn : NameP nm := hnm.resolve_right (by simp)
          have c1 := hn.wd.clean
          have c2 := (itoa_wd lo).clean
          have c3 := (itoa_wd hi).clean
          have c4 : Clean [100, 111] := .word (by refine ⟨by decide, by decide⟩)
          have f1 : FormS d (d + 1) (lineB d [[102, 111, 114], nm, Lib.itoa lo, Lib.itoa hi, [100, 111]]) := line_form (by refine ⟨by decide, by decide⟩) (by
            intro p hp
            simp only [List.mem_cons, List.not_mem_nil, or_false] at hp
            rcases hp with rfl | rfl | rfl | rfl <;> assumption) (by rw [if_neg (by decide)]) (by rw [if_pos (by simp [opensW])])
          exact f1.cat ((rawB_form L (d + 1) b hL (by omega) hb).cat (end_form d))
        rw [if_neg k3] at h
        by_cases k4 : k = 4
        · subst k4
          rw [if_pos rfl] at h
          injection h with h
          subst h
          exact line_form (by refine ⟨by decide, by decide⟩) (by simp) (by rw [if_neg (by decide)]) (by rw [if_neg (by simp [opensW])])
        rw [if_neg k4] at h
        by_cases k5 : k = 5
        · subst k5
          rw [if_pos rfl] at h
          injection h with h
          subst h
          have hn : NameP nm := hnm.resolve_right (by simp)
          have c1 := hn.wd.clean
          have c2 := (itoa_wd lo).clean
          exact line_form (by refine ⟨by decide, by decide⟩) (by
            intro p hp
            simp only [List.mem_cons, List.not_mem_nil, or_false] at hp
            rcases hp with rfl | rfl <;> assumption) (by rw [if_neg (by decide)]) (by rw [if_neg (by simp [opensW])])
        rw [if_neg k5] at h
        by_cases k6 : k = 6
        · subst k6
          rw [if_pos rfl] at h
          injection h with h
          subst h
          have h0 := rd_clean hcl (i := 0) (by rw [hTl]; decide)
          exact line_form (by refine ⟨by decide, by decide⟩) (by
            intro p hp
            simp only [List.mem_cons, List.not_mem_nil, or_false] at hp
            rcases hp with rfl
            assumption) (by rw [if_neg (by decide)]) (by rw [if_neg (by simp [opensW])])
        rw [if_neg k6] at h
        by_cases k7 : k = 7
        · subst k7
          rw [if_pos rfl] at h
          injection h with h
          subst h
          exact line_form (by refine ⟨by decide, by decide⟩) (by simp) (by rw [if_neg (by decide)]) (by rw [if_neg (by simp [opensW])])
        rw [if_neg k7] at h
        by_cases k8 : k = 8
        · subst k8
          rw [if_pos rfl] at h
          injection h with h
          subst h
          have h0 := rd_clean hcl (i := 0) (by rw [hTl]; decide)
          have h1 := payB_clean (rd_clean hcl (i := 1) (by rw [hTl]; decide))
          exact line_form (by refine ⟨by decide, by decide⟩) (by
            intro p hp
            simp only [List.mem_cons, List.not_mem_nil, or_false] at hp
            rcases hp with rfl | rfl <;> assumption) (by rw [if_neg (by decide)]) (by rw [if_neg (by simp [opensW]; omega)])
        rw [if_neg k8] at h
        injection h with h
        subst h
        have h0 := rd_clean hcl (i := 0) (by
          rw [hTl]
          unfold partsS
          rw [if_neg (by omega), if_neg (by omega)]
          decide)
        exact line_form (by refine ⟨by decide, by decide⟩) (by
          intro p hp
          simp only [List.mem_cons, List.not_mem_nil, or_false] at hp
          rcases hp with rfl
          assumption) (by rw [if_neg (by decide)]) (by rw [if_neg (by simp [opensW])])
    · cases h
theorem rawB_form : ∀ (l : List St) (d : Nat) (t : List UInt8), EvSs NameP NumP l → 1 ≤ d → rawB d (sxs l) = some t → FormS d d t
  | [], d, t, _, _, h => by
    rw [sxs, rawB] at h
    injection h with h
    subst h
    exact .nil _
  | s :: l, d, t, hp, hd, h => by
    rw [sxs, rawB] at h
    obtain ⟨a, b, ha, hb, rfl⟩ := ocat_some_iff h
    exact (rawS_form s d a hp.1 hd ha).cat (rawB_form l d b hp.2 hd hb)
end
theorem part_form {w : List UInt8} {ps : List (List UInt8)} {l : List St} {t : List UInt8} (hw : Wd w) (hps : ∀ p ∈ ps, Clean p) (ho : closesW w = false ∧ opensW w 0 = true) (hl : EvSs NameP NumP l) (h : partO (w :: ps) (sxs l) = some t) : FormS 0 0 t := by
  unfold partO at h
  obtain ⟨a, r, ha, h1, rfl⟩ := ocat_some_iff h
  obtain ⟨b, c, hb, hc, rfl⟩ := ocat_some_iff h1
  injection ha with ha
  injection hc with hc
  subst ha hc
  have f1 : FormS 0 1 (lineB 0 (w :: ps)) := line_form hw hps (by rw [ho.1]; rfl) (by rw [ho.2]; rfl)
  exact f1.cat ((rawB_form l 1 b hl (Nat.le_refl _) hb).cat (end_form 0))
theorem params_clean : ∀ (l : List Va), (∀ v ∈ l, EvV NameP NumP v) → ∀ p ∈ paramsB l, Clean p
  | [], _, p, hp => by simp [paramsB] at hp
  | [v], h, p, hp => by
    simp only [paramsB, List.mem_cons, List.not_mem_nil, or_false] at hp
    rcases hp with rfl | rfl | rfl
    · exact (h v (by simp)).1.wd.clean
    · exact (itoa_wd _).clean
    · exact (itoa_wd _).clean
  | v :: v2 :: l, h, p, hp => by
    rw [paramsB] at hp
    · rcases List.mem_append.1 hp with hp | hp
      · simp only [List.mem_cons, List.not_mem_nil, or_false] at hp
        rcases hp with rfl | rfl | rfl
        · exact (h v (by simp)).1.wd.clean
        · exact (itoa_wd _).clean
        · exact ((itoa_wd _).cat (by decide)).clean
      · exact params_clean (v2 :: l) (fun u hu => h u (List.mem_cons_of_mem _ hu)) p hp
    · simp
theorem plain_form {w : List UInt8} {ps : List (List UInt8)} (hw : Wd w) (hps : ∀ p ∈ ps, Clean p) (h1 : closesW w = false) (h2 : opensW w 0 = false) : FormS 0 0 (lineB 0 (w :: ps)) := line_form hw hps (by rw [h1]; rfl) (by rw [h2]; rfl)
theorem vars_form : ∀ (l : List Va), (∀ v ∈ l, EvV NameP NumP v) → FormS 0 0 (l.map varB).flatten
  | [], _ => .nil _
  | v :: l, h => by
    rw [List.map_cons, List.flatten_cons]
    refine FormS.cat ?_ (vars_form l fun u hu => h u (List.mem_cons_of_mem _ hu))
    unfold varB
    refine plain_form (w := [118, 97, 114]) (ps := ([v.nm] ++ (if v.size = 0 then [] else [[91], Lib.itoa v.size, [93]])) ++ [Lib.itoa v.lo, Lib.itoa v.hi]) (by refine ⟨by decide, by decide⟩) ?_ (by decide) (by decide)
    intro p hp
    have hv := (h v (List.mem_cons_self ..)).1.wd.clean
    have h91 : Clean [91] := .word (by refine ⟨by decide, by decide⟩)
    have h93 : Clean [93] := .word (by refine ⟨by decide, by decide⟩)
    have c1 := (itoa_wd v.size).clean
    have c2 := (itoa_wd v.lo).clean
    have c3 := (itoa_wd v.hi).clean
    split at hp
    · simp only [List.nil_append, List.cons_append, List.mem_cons, List.not_mem_nil, or_false] at hp
      rcases hp with rfl | rfl | rfl <;> assumption
    · simp only [List.nil_append, List.cons_append, List.mem_cons, List.not_mem_nil, or_false] at hp
      rcases hp with rfl | rfl | rfl | rfl | rfl | rfl <;> assumption
/-- The text of a parsed program is in form. -/
theorem rawP_form {p : Pg} {t : List UInt8} (hp : EvP NameP NumP p) (h : rawP p.px = some t) : FormS 0 0 t := by
  unfold rawP Pg.px at h
  obtain ⟨a, r1, ha, h1, rfl⟩ := ocat_some_iff h
  obtain ⟨b, r2, hb, h2, rfl⟩ := ocat_some_iff h1
  obtain ⟨c, r3, hc, h3, rfl⟩ := ocat_some_iff h2
  obtain ⟨d, r4, hd, h4, rfl⟩ := ocat_some_iff h3
  obtain ⟨e, f, he, hf, rfl⟩ := ocat_some_iff h4
  injection ha with ha
  subst ha
  have f0 : FormS 0 0 (lineB 0 [[103, 97, 109, 101], p.nm]) := plain_form (by refine ⟨by decide, by decide⟩) (by
    intro q hq
    obtain rfl := List.mem_singleton.1 hq
    exact hp.nm.wd.clean) (by decide) (by decide)
  have f1 : FormS 0 0 (lineB 0 [[115, 101, 97, 116, 115], Lib.itoa p.seats]) := plain_form (by refine ⟨by decide, by decide⟩) (by
    intro q hq
    obtain rfl := List.mem_singleton.1 hq
    exact (itoa_wd _).clean) (by decide) (by decide)
  have f2 : FormS 0 0 (lineB 0 ([115, 116, 97, 107, 101] :: p.stakes.map Lib.itoa)) := plain_form (by refine ⟨by decide, by decide⟩) (by
    intro q hq
    obtain ⟨n, _, rfl⟩ := List.mem_map.1 hq
    exact (itoa_wd _).clean) (by decide) (by decide)
  exact (((f0.cat f1).cat f2).cat (vars_form p.vars hp.vars)).cat ((part_form (by refine ⟨by decide, by decide⟩) (by simp) (by decide) hp.start hb).cat ((part_form (by refine ⟨by decide, by decide⟩) (by simp) (by decide) hp.turn hc).cat
    ((part_form (by refine ⟨by decide, by decide⟩) (params_clean p.params hp.params) (by decide) hp.play hd).cat ((part_form (by refine ⟨by decide, by decide⟩) (by
      intro q hq
      obtain rfl := List.mem_singleton.1 hq
      exact hp.silent.wd.clean) (by decide) hp.quiet he).cat (part_form (by refine ⟨by decide, by decide⟩) (by simp) (by decide) hp.pays hf)))))
theorem PrintIs.form {p : Px} {t : List UInt8} (h : PrintIs p t) : FormS 0 0 t := by
  obtain ⟨h1, _, q, h2, rfl⟩ := h
  exact rawP_form (progO_ev h2) h1
end Go.Proofs.YtdgekckedchjbaaGreatDoor
