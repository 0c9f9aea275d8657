
/-
  The document's run: a letter, and letters, digits and _ behind it. The document's IsName. The parser of programs on a text that is cut off, or goes on: the plain law. A text that is cut off, or goes on: expressions, statements, programs. A text that is cut off, or goes on: statements, programs; the law SyntaxCuts in plain words. SyntaxCuts: the walk. (Printed by wip/tools/gens39.py.)
-/
import Derived.Test.YtdmlnoeneoomfaaDoorJA
import Derived.Test.YtdmlnoeneoomfaaDoorSB
import Derived.Test.YtdmlnoeneoomfaaDoorSF
import Derived.Test.YtdmlnoeneoomfaaDoorL13
namespace Go.Proofs.YtdmlnoeneoomfaaDoor
open Go.RowKit

set_option maxHeartbeats 2000000 in
set_option maxRecDepth 100000 in
theorem refRun_any (s : ByteArray) (w : World) (hs : s.size ≤ 9223372036854775807) :
    Calls Tryd.prog 42 #[.string s] w fun e w' => e = .returned (.bool (runS s.data.toList)) ∧ w' = w := by
  have hlen : s.data.toList.length = s.size := Array.length_toList
  have HL := Lib.hid hlen
  have htl : s.toList = s.data.toList := tl_eq s
  have HTL := Lib.hid htl
  clear hlen htl
  go_enter Tryd.func42, Tryd.ntmps42
  go_wp2_with fail
  go_loopw [3] (fun i wr => ∃ k : Nat, k ≤ s.size ∧ i = .int .i64 k ∧ Hid (∀ j (hj : j < s.data.toList.length), j < k → innB (s.data.toList[j]'hj) = true ∧ (j = 0 → letB (s.data.toList[j]'hj) = true)) ∧ wr = w) (fun i _ => s.size - (intOf i).toNat)
  case atStart => exact ⟨0, by omega, rfl, fun j hj h => absurd h (by omega), rfl⟩
  case round =>
    obtain ⟨k, hk, rfl, hp, rfl⟩ := hrel
    by_cases hlt : k < s.size
    · obtain ⟨c, hcc⟩ : ∃ c : UInt8, s[k] = c := ⟨_, rfl⟩
      have hq : ∃ hj : k < s.data.toList.length, s.data.toList[k]'hj = c := ⟨by rw [HL.out]; exact hlt, by rw [← hcc]; rfl⟩
      have HQ := Lib.hid hq
      clear hq
      by_cases hok : letB c = true ∨ (k ≠ 0 ∧ innB c = true)
      · have hnext : Hid (∀ j (hj : j < s.data.toList.length), j < k + 1 → innB (s.data.toList[j]'hj) = true ∧ (j = 0 → letB (s.data.toList[j]'hj) = true)) := fun j hj h => by
          rcases Nat.lt_or_ge j k with h1 | h1
          · exact hp.out j hj h1
          · obtain rfl : j = k := by omega
            obtain ⟨_, h2⟩ := HQ.out
            rw [h2]
            rcases hok with h3 | ⟨h3, h4⟩
            · exact ⟨by unfold innB; simp [h3], fun _ => h3⟩
            · exact ⟨h4, fun h => absurd h h3⟩
        have HOK := Lib.hid hok
        clear hok hp HQ
        cases hlc : letB c
        · have hok := HOK.out.resolve_left (by rw [hlc]; simp)
          have z1 : ¬ (k : Int) = 0 := by have := hok.1; omega
          have z2 : ((k : Int) == 0) = false := by simpa using z1
          have HLC := Lib.hid hlc
          clear hlc
          cases hdc : digB c
          · have e95 : (c.toNat : Int) = 95 := by
              have := hok.2
              unfold innB at this
              rw [HLC.out, hdc] at this
              simp at this
              omega
            have e96 : ((c.toNat : Int) != 95) = false := by rw [e95]; rfl
            clear e95
            have HDC := Lib.hid hdc
            clear hdc hok
            go_wp2_with (first | (go_at_call 70; refine (refLetter_any c _).mono ?_; rintro e w' ⟨rfl, rfl⟩; rw [HLC.out]) | (go_at_call 71; refine (refDigit_any c _).mono ?_; rintro e w' ⟨rfl, rfl⟩; rw [HDC.out]))
            go_roundw
            case rel => exact ⟨k + 1, by omega, by go_num, hnext, trivial⟩
            case measure => simp [intOf]; omega
          · have HDC := Lib.hid hdc
            clear hdc hok
            go_wp2_with (first | (go_at_call 70; refine (refLetter_any c _).mono ?_; rintro e w' ⟨rfl, rfl⟩; rw [HLC.out]) | (go_at_call 71; refine (refDigit_any c _).mono ?_; rintro e w' ⟨rfl, rfl⟩; rw [HDC.out]))
            go_roundw
            case rel => exact ⟨k + 1, by omega, by go_num, hnext, trivial⟩
            case measure => simp [intOf]; omega
        · have HLC := Lib.hid hlc
          clear hlc
          go_wp2_with (first | (go_at_call 70; refine (refLetter_any c _).mono ?_; rintro e w' ⟨rfl, rfl⟩; rw [HLC.out]))
          go_roundw
          case rel => exact ⟨k + 1, by omega, by go_num, hnext, trivial⟩
          case measure => simp [intOf]; omega
      · have hlc : letB c = false := by
          cases h : letB c
          · rfl
          · exact absurd (.inl h) hok
        have HF : Hid (runS s.data.toList = false) := by
          rw [Hid]
          unfold runS
          rw [decide_eq_false_iff_not]
          rintro ⟨h1, h2, h3⟩
          obtain ⟨hj, h4⟩ := HQ.out
          have h5 := h3 c (by rw [← h4]; exact List.getElem_mem hj)
          rcases Nat.eq_zero_or_pos k with h6 | h6
          · subst h6
            rw [List.headD_eq_head?_getD, List.head?_eq_getElem?, List.getElem?_eq_getElem hj, h4] at h2
            exact hok (.inl h2)
          · exact hok (.inr ⟨by omega, h5⟩)
        have hdc : k = 0 ∨ digB c = false := by
          rcases Nat.eq_zero_or_pos k with h6 | h6
          · exact .inl h6
          · right
            cases h : digB c
            · rfl
            · exact absurd (.inr ⟨by omega, by unfold innB; simp [h]⟩) hok
        have h95 : k = 0 ∨ ¬ (c.toNat : Int) = 95 := by
          rcases Nat.eq_zero_or_pos k with h6 | h6
          · exact .inl h6
          · right
            intro h
            exact hok (.inr ⟨by omega, by unfold innB; simp; omega⟩)
        have HLC := Lib.hid hlc
        clear hok hlc HQ hp
        by_cases hk0 : k = 0
        · subst hk0
          clear hdc h95
          go_wp2_with (first | (go_at_call 70; refine (refLetter_any c _).mono ?_; rintro e w' ⟨rfl, rfl⟩; rw [HLC.out]))
          go_ret
          exact ⟨by rw [HF.out]; rfl, rfl⟩
        · have z1 : ¬ (k : Int) = 0 := by omega
          have z2 : ((k : Int) == 0) = false := by simpa using z1
          have HDC := Lib.hid (hdc.resolve_left hk0)
          have e95 := h95.resolve_left hk0
          clear hdc h95
          go_wp2_with (first | (go_at_call 70; refine (refLetter_any c _).mono ?_; rintro e w' ⟨rfl, rfl⟩; rw [HLC.out]) | (go_at_call 71; refine (refDigit_any c _).mono ?_; rintro e w' ⟨rfl, rfl⟩; rw [HDC.out]))
          go_ret
          exact ⟨by rw [HF.out]; rfl, rfl⟩
    · obtain rfl : k = s.size := by omega
      have HR : Hid (runS s.data.toList = !s.toList.isEmpty) := by
        rw [Hid, HTL.out]
        unfold runS
        rcases hsl : s.data.toList with _ | ⟨c, r⟩
        · simp
        · simp only [List.isEmpty_cons, Bool.not_false, decide_eq_true_iff]
          have h := hp.out
          rw [hsl] at h
          have hsz : s.size = (c :: r).length := by rw [← HL.out, hsl]
          refine ⟨by simp, ?_, ?_⟩
          · exact (h 0 (by simp) (by rw [hsz]; simp)).2 rfl
          · intro x hx
            obtain ⟨j, hj, rfl⟩ := List.getElem_of_mem hx
            exact (h j hj (by rw [hsz]; exact hj)).1
      cases hemp : s.toList.isEmpty
      · have e1 : ¬ s.toList = [] := by simpa using hemp
        go_wp2_with fail
        go_ret
        exact ⟨by rw [HR.out, hemp]; rfl, rfl⟩
      · have e1 : s.toList = [] := by simpa using hemp
        go_wp2_with fail
        go_ret
        exact ⟨by rw [HR.out, hemp]; rfl, rfl⟩
end Go.Proofs.YtdmlnoeneoomfaaDoor
namespace Go.Proofs.YtdmlnoeneoomfaaDoor
open Go.RowKit

set_option maxHeartbeats 1000000 in
set_option maxRecDepth 100000 in
theorem refIsName_any (s : ByteArray) (w : World) (hs : s.size ≤ 9223372036854775807) :
    Calls Tryd.prog 20 #[.string s] w (Tells w (nameS s.data.toList)) := by
  obtain ⟨X, hX⟩ : ∃ X, s.data.toList = X := ⟨_, rfl⟩
  have hsz : s.size = X.length := by rw [← hX, size_list]
  have hst : s = str X := ba_ext (by rw [str_list, hX])
  rw [hX]
  have HX := Lib.hid hX
  have HST := Lib.hid hst
  clear hX hst
  go_enter Tryd.func20, Tryd.ntmps20
  have hn : nameS X = (runS X && decide (X.length ≤ 30) && !decide (X ∈ wordsL)) := rfl
  have HN := Lib.hid hn
  clear hn
  cases hr : runS X
  · have HR := Lib.hid hr
    clear hr hsz
    go_wp2_with (first | (go_at_call 42; refine (refRun_any s _ hs).mono ?_; rintro e w' ⟨rfl, rfl⟩; rw [HX.out, HR.out]))
    go_ret
    exact ⟨by rw [HN.out, HR.out]; rfl, Below.refl _ _⟩
  · have HR := Lib.hid hr
    clear hr
    by_cases h30 : X.length ≤ 30
    · have z1 : (s.size : Int) ≤ 30 := by omega
      have HL := Lib.hid (decide_eq_true h30)
      clear h30 hsz
      obtain ⟨b, hb⟩ : ∃ b, decide (X ∈ wordsL) = b := ⟨_, rfl⟩
      have HB := Lib.hid hb
      clear hb
      have f1 : Below w.heap.size w (w.alloc (textsO wordsB)) := (Below.refl _ w).al _
      go_wp2_with (first | (go_at_call 42; refine (refRun_any s _ hs).mono ?_; rintro e w' ⟨rfl, rfl⟩; rw [HX.out, HR.out]) | (go_at_call 44; refine (refWords_any _).mono ?_; rintro e w' ⟨rfl, rfl⟩) | (go_at_call 43; rw [HST.out]; refine (refHas_any wordsL _ 23 23 X _ (texts_rv _ wordsB) (by omega)).mono ?_; rintro e w' ⟨rfl, rfl⟩; rw [HB.out]))
      go_ret
      exact ⟨by rw [HN.out, HR.out, HL.out, HB.out]; simp, f1⟩
    · have z1 : ¬ (s.size : Int) ≤ 30 := by omega
      have HL := Lib.hid (decide_eq_false h30)
      clear h30 hsz
      go_wp2_with (first | (go_at_call 42; refine (refRun_any s _ hs).mono ?_; rintro e w' ⟨rfl, rfl⟩; rw [HX.out, HR.out]))
      go_ret
      exact ⟨by rw [HN.out, HR.out, HL.out]; rfl, Below.refl _ _⟩

end Go.Proofs.YtdmlnoeneoomfaaDoor
namespace Go.Proofs.YtdmlnoeneoomfaaDoor

/-- A parser on tokens us, with an end behind them, and with others: it stops within us, at both alike; or the end is too early; or (where c) it has taken all of us. -/
def CutC {α : Type} (c : Prop) (f : List Tk → PS α) : Prop := ∀ (us : List Tk) (e : Tk) (vs : List Tk), e.kind = 0 → e.text = [] →
  (∃ a r, r <:+ us ∧ f (us ++ vs) = .ok a (r ++ vs) ∧ f (us ++ [e]) = .ok a (r ++ [e])) ∨ (∃ r1 e1 r2 e2, f (us ++ vs) = .bad r1 e1 ∧ f (us ++ [e]) = .bad r2 e2) ∨ f (us ++ [e]) = .bad [e] 4 ∨ (c ∧ ∃ b, f (us ++ [e]) = .ok b [e])
def At0 {α : Type} (c : Prop) (f : List Tk → PS α) : Prop := ∀ (e : Tk), e.kind = 0 → e.text = [] → f [e] = .bad [e] 4 ∨ (c ∧ ∃ b, f [e] = .ok b [e])
section
variable {α β : Type} {c : Prop}
theorem CutC.soft {f : List Tk → PS α} (h : CutC False f) : CutC c f := fun us e vs h0 h1 => by
  rcases h us e vs h0 h1 with h | h | h | h
  · exact .inl h
  · exact .inr (.inl h)
  · exact .inr (.inr (.inl h))
  · exact h.1.elim
theorem At0.soft {f : List Tk → PS α} (h : At0 False f) : At0 c f := fun e h0 h1 => by
  rcases h e h0 h1 with h | h
  · exact .inl h
  · exact h.1.elim
theorem CutC.bind {c1 : Prop} {p : List Tk → PS α} {f : α → List Tk → PS β} (hp : CutC c1 p) (hf : ∀ a, CutC c (f a)) (h0 : c1 → ∀ a, At0 c (f a)) : CutC c fun r => (p r).bind fun a r => f a r := fun us e vs k0 t0 => by
  simp only
  rcases hp us e vs k0 t0 with ⟨a, r, hs, h1, h2⟩ | ⟨r1, e1, r2, e2, h1, h2⟩ | h | ⟨hc, b, h⟩
  · rw [h1, h2]
    rcases hf a r e vs k0 t0 with ⟨b, r', hs', h3, h4⟩ | h | h | h
    · exact .inl ⟨b, r', hs'.trans hs, h3, h4⟩
    · exact .inr (.inl h)
    · exact .inr (.inr (.inl h))
    · exact .inr (.inr (.inr h))
  · rw [h1, h2]
    exact .inr (.inl ⟨r1, e1, r2, e2, rfl, rfl⟩)
  · rw [h]
    exact .inr (.inr (.inl rfl))
  · rw [h]
    rcases h0 hc b e k0 t0 with h | h
    · exact .inr (.inr (.inl h))
    · exact .inr (.inr (.inr h))
theorem CutC.sharp {p : List Tk → PS α} {f : α → List Tk → PS β} (hp : CutC False p) (hf : ∀ a, CutC c (f a)) : CutC c fun r => (p r).bind fun a r => f a r := hp.bind hf (fun h => h.elim)
theorem At0.bind {c1 : Prop} {p : List Tk → PS α} {f : α → List Tk → PS β} (hp : At0 c1 p) (hf : c1 → ∀ a, At0 c (f a)) : At0 c fun r => (p r).bind fun a r => f a r := fun e k0 t0 => by
  simp only
  rcases hp e k0 t0 with h | ⟨hc, b, h⟩
  · rw [h]
    exact .inl rfl
  · rw [h]
    exact hf hc b e k0 t0
theorem At0.sharp {p : List Tk → PS α} {f : α → List Tk → PS β} (hp : At0 False p) : At0 c fun r => (p r).bind fun a r => f a r := hp.bind (fun h => h.elim)
theorem CutC.ok (a : α) : CutC c fun r => PS.ok a r := fun us _ _ _ _ => .inl ⟨a, us, List.suffix_refl _, rfl, rfl⟩
theorem At0.ok (a : α) : At0 True fun r => PS.ok a r := fun _ _ _ => .inr ⟨trivial, a, rfl⟩
/-- A question about the next token alone, to which an end says no. -/
def Head1 (q : List Tk → Bool) : Prop := (∀ (t : Tk) (X : List Tk), q (t :: X) = q [t]) ∧ ∀ (e : Tk), e.kind = 0 → e.text = [] → q [e] = false
theorem CutC.ite {q : List Tk → Bool} (hq : Head1 q) {g h : List Tk → PS α} (hg : CutC c g) (hh : CutC c h) (h0 : At0 c h) : CutC c fun r => if q r then g r.tail else h r := fun us e vs k0 t0 => by
  simp only
  cases us with
  | nil =>
    rw [List.nil_append, List.nil_append, hq.2 e k0 t0, if_neg Bool.false_ne_true]
    rcases h0 e k0 t0 with h | h
    · exact .inr (.inr (.inl h))
    · exact .inr (.inr (.inr h))
  | cons t us =>
    rw [List.cons_append, List.cons_append, hq.1, hq.1 t (us ++ [e])]
    split
    · rcases hg us e vs k0 t0 with ⟨b, r', hs', h3, h4⟩ | h | h | h
      · exact .inl ⟨b, r', hs'.trans (List.suffix_cons _ _), h3, h4⟩
      · exact .inr (.inl h)
      · exact .inr (.inr (.inl h))
      · exact .inr (.inr (.inr h))
    · exact hh (t :: us) e vs k0 t0
theorem At0.ite {q : List Tk → Bool} (hq : Head1 q) {g h : List Tk → PS α} (h0 : At0 c h) : At0 c fun r => if q r then g r.tail else h r := fun e k0 t0 => by
  simp only
  rw [hq.2 e k0 t0, if_neg Bool.false_ne_true]
  exact h0 e k0 t0
theorem CutC.ite2 {q : List Tk → Bool} (hq : Head1 q) {g h : List Tk → PS α} (hg : CutC c g) (hh : CutC c h) (h0 : At0 c h) : CutC c fun r => if q r then g r else h r := fun us e vs k0 t0 => by
  simp only
  cases us with
  | nil =>
    rw [List.nil_append, List.nil_append, hq.2 e k0 t0, if_neg Bool.false_ne_true]
    rcases h0 e k0 t0 with h | h
    · exact .inr (.inr (.inl h))
    · exact .inr (.inr (.inr h))
  | cons t us =>
    rw [List.cons_append, List.cons_append, hq.1, hq.1 t (us ++ [e])]
    split
    · exact hg (t :: us) e vs k0 t0
    · exact hh (t :: us) e vs k0 t0
theorem At0.ite2 {q : List Tk → Bool} (hq : Head1 q) {g h : List Tk → PS α} (h0 : At0 c h) : At0 c fun r => if q r then g r else h r := fun e k0 t0 => by
  simp only
  rw [hq.2 e k0 t0, if_neg Bool.false_ne_true]
  exact h0 e k0 t0
theorem CutC.if_ (b : Prop) [Decidable b] {g h : List Tk → PS α} (hg : CutC c g) (hh : CutC c h) : CutC c fun r => if b then g r else h r := by
  by_cases hb : b
  · simp only [if_pos hb]; exact hg
  · simp only [if_neg hb]; exact hh
theorem At0.if_ (b : Prop) [Decidable b] {g h : List Tk → PS α} (hg : At0 c g) (hh : At0 c h) : At0 c fun r => if b then g r else h r := by
  by_cases hb : b
  · simp only [if_pos hb]; exact hg
  · simp only [if_neg hb]; exact hh
end
theorem wrong0 {e : Tk} (h : e.kind = 0) : wrongT [e] = 4 := by simp [wrongT, h]
theorem head_hasT (x : List UInt8) : Head1 (hasT x) := ⟨fun _ _ => rfl, fun e h _ => by simp [hasT, h]⟩
theorem head_kind {k : Int} (hk : k ≠ 0) : Head1 (kindT k) := ⟨fun _ _ => rfl, fun e h _ => by simp [kindT, h]; exact fun h => hk h.symm⟩
theorem head_begins : Head1 beginsT := ⟨fun _ _ => rfl, fun e h _ => by simp [beginsT, h]⟩
theorem must_cut (x : List UInt8) : CutC False (mustP x) := fun us e vs k0 t0 => by
  cases us with
  | nil =>
    refine .inr (.inr (.inl ?_))
    rw [List.nil_append]
    unfold mustP
    rw [(head_hasT x).2 e k0 t0, if_neg (by decide), wrong0 k0]
  | cons t us =>
    simp only [List.cons_append]
    unfold mustP
    rw [(head_hasT x).1, (head_hasT x).1 t (us ++ [e])]
    split
    · exact .inl ⟨(), us, List.suffix_cons _ _, rfl, rfl⟩
    · exact .inr (.inl ⟨_, _, _, _, rfl, rfl⟩)
theorem must_at0 (x : List UInt8) : At0 False (mustP x) := fun e k0 t0 => by
  left
  unfold mustP
  rw [(head_hasT x).2 e k0 t0, if_neg (by decide), wrong0 k0]
theorem take_cut {k : Int} (hk : k ≠ 0) : CutC False (takeP k) := fun us e vs k0 _ => by
  cases us with
  | nil =>
    refine .inr (.inr (.inl ?_))
    simp only [List.nil_append, takeP]
    rw [if_neg (by rw [k0]; exact fun h => hk h.symm), wrong0 k0]
  | cons t us =>
    simp only [List.cons_append, takeP]
    split
    · exact .inl ⟨t, us, List.suffix_cons _ _, rfl, rfl⟩
    · exact .inr (.inl ⟨_, _, _, _, rfl, rfl⟩)
theorem take_at0 {k : Int} (hk : k ≠ 0) : At0 False (takeP k) := fun e k0 _ => by
  left
  simp only [takeP]
  rw [if_neg (by rw [k0]; exact fun h => hk h.symm), wrong0 k0]
theorem name_cut : CutC False nameP := CutC.sharp (take_cut (by decide)) fun _ => CutC.ok _
theorem word_cut : CutC False wordP := CutC.sharp (take_cut (by decide)) fun _ => CutC.ok _
theorem num_cut : CutC False numP := CutC.sharp (take_cut (by decide)) fun _ => CutC.ok _
theorem name_at0 : At0 False nameP := At0.sharp (take_at0 (by decide))
theorem word_at0 : At0 False wordP := At0.sharp (take_at0 (by decide))
theorem num_at0 : At0 False numP := At0.sharp (take_at0 (by decide))
theorem signed_cut : CutC False signedP := CutC.ite (head_hasT _) (g := fun r => (numP r).bind fun n r => PS.ok (IntKind.i64.wrap (-n)) r) (CutC.sharp num_cut fun _ => CutC.ok _) num_cut num_at0
theorem signed_at0 : At0 False signedP := At0.ite (head_hasT _) (g := fun r => (numP r).bind fun n r => PS.ok (IntKind.i64.wrap (-n)) r) num_at0
/-- A list may be asked for more than there is. -/
theorem list_fuel {α : Type} {more : List Tk → Bool} {one : List Tk → PS α} (ho : EatsP one) : ∀ (n : Nat) (r : List Tk), r.length ≤ n → (more [] = false) → ∀ (f : Nat) (acc : List α), r.length ≤ f → listP more one f acc r = listP more one n acc r
  | 0, r, hn, hm, f, acc, _ => by
    obtain rfl : r = [] := List.eq_nil_of_length_eq_zero (by omega)
    cases f with
    | zero => rfl
    | succ f => simp [listP, hm]
  | n + 1, r, hn, hm, f, acc, hf => by
    cases f with
    | zero =>
      obtain rfl : r = [] := List.eq_nil_of_length_eq_zero (by omega)
      simp [listP, hm]
    | succ f =>
      simp only [listP]
      split
      · cases hq : one r with
        | bad r1 e => rfl
        | ok a r1 =>
          have hl := ho _ _ _ hq
          simp only [PS.ok_bind]
          rw [list_fuel ho n r1 (by omega) hm f _ (by omega)]
      · rfl
theorem list_cut {α : Type} {more : List Tk → Bool} {one : List Tk → PS α} (hm : Head1 more) (hn : more [] = false) (ho : EatsP one) {c1 : Prop} (hc : CutC c1 one) : ∀ (n : Nat) (us : List Tk), us.length ≤ n → ∀ (e : Tk) (vs : List Tk) (acc : List α), e.kind = 0 → e.text = [] →
    (∃ a r, r <:+ us ∧ listP more one (us ++ vs).length acc (us ++ vs) = .ok a (r ++ vs) ∧ listP more one (us ++ [e]).length acc (us ++ [e]) = .ok a (r ++ [e])) ∨
    (∃ r1 e1 r2 e2, listP more one (us ++ vs).length acc (us ++ vs) = .bad r1 e1 ∧ listP more one (us ++ [e]).length acc (us ++ [e]) = .bad r2 e2) ∨
    listP more one (us ++ [e]).length acc (us ++ [e]) = .bad [e] 4 ∨ (True ∧ ∃ b, listP more one (us ++ [e]).length acc (us ++ [e]) = .ok b [e])
  | _, [], _, e, vs, acc, k0, t0 => by
    refine .inr (.inr (.inr ⟨trivial, acc, ?_⟩))
    simp [listP, hm.2 e k0 t0]
  | 0, t :: us, hl, e, vs, acc, k0, t0 => by simp at hl
  | n + 1, t :: us, hl, e, vs, acc, k0, t0 => by
    have e1 : ∀ X : List Tk, listP more one (t :: us ++ X).length acc (t :: us ++ X) = if more [t] then (one (t :: us ++ X)).bind fun a r => listP more one r.length (acc ++ [a]) r else .ok acc (t :: us ++ X) := fun X => by
      rw [List.cons_append, List.length_cons]
      simp only [listP]
      rw [hm.1]
      split
      · cases hq : one (t :: (us ++ X)) with
        | bad r1 e => rfl
        | ok a r1 =>
          have hl := ho _ _ _ hq
          rw [List.length_cons] at hl
          simp only [PS.ok_bind]
          rw [list_fuel ho r1.length r1 (Nat.le_refl _) hn (us ++ X).length _ (by omega)]
      · rfl
    rw [e1, e1]
    split
    · rcases hc (t :: us) e vs k0 t0 with ⟨a, r, hs, h1, h2⟩ | ⟨r1, e1, r2, e2, h1, h2⟩ | h | ⟨-, b, h⟩
      · rw [h1, h2]
        have hl2 := ho _ _ _ h2
        rw [List.length_append, List.length_append] at hl2
        simp only [List.length_cons] at hl hl2
        simp only [PS.ok_bind]
        rcases list_cut hm hn ho hc n r (by omega) e vs (acc ++ [a]) k0 t0 with ⟨b, r', hs', h3, h4⟩ | h | h | h
        · exact .inl ⟨b, r', hs'.trans hs, h3, h4⟩
        · exact .inr (.inl h)
        · exact .inr (.inr (.inl h))
        · exact .inr (.inr (.inr h))
      · rw [h1, h2]
        exact .inr (.inl ⟨r1, e1, r2, e2, rfl, rfl⟩)
      · rw [h]
        exact .inr (.inr (.inl rfl))
      · rw [h]
        refine .inr (.inr (.inr ⟨trivial, acc ++ [b], ?_⟩))
        simp [PS.ok_bind, listP, hm.2 e k0 t0]
    · exact .inl ⟨acc, t :: us, List.suffix_refl _, rfl, rfl⟩
theorem listL_cut {α : Type} {more : List Tk → Bool} {one : List Tk → PS α} (hm : Head1 more) (hn : more [] = false) (ho : EatsP one) {c1 : Prop} (hc : CutC c1 one) (acc : List α) : CutC True fun r => listP more one r.length acc r := fun us e vs k0 t0 => list_cut hm hn ho hc us.length us (Nat.le_refl _) e vs acc k0 t0
theorem listL_at0 {α : Type} {more : List Tk → Bool} {one : List Tk → PS α} (hm : Head1 more) (acc : List α) : At0 True fun r => listP more one r.length acc r := fun e k0 t0 => by
  refine .inr ⟨trivial, acc, ?_⟩
  simp [listP, hm.2 e k0 t0]
end Go.Proofs.YtdmlnoeneoomfaaDoor
namespace Go.Proofs.YtdmlnoeneoomfaaDoor

/-- An expression's parser at a cut. -/
def CutR (next : List Tk → PR) : Prop := ∀ (us : List Tk) (e : Tk) (vs : List Tk), e.kind = 0 → e.text = [] →
  (∃ a r, r <:+ us ∧ next (us ++ vs) = .ok a (r ++ vs) ∧ next (us ++ [e]) = .ok a (r ++ [e])) ∨ (∃ r1 e1 r2 e2, next (us ++ vs) = .bad r1 e1 ∧ next (us ++ [e]) = .bad r2 e2) ∨ next (us ++ [e]) = .bad [e] 4 ∨ ∃ b, next (us ++ [e]) = .ok b [e]
theorem opAt_end {e : Tk} (h : e.text = []) (l : Nat) : opAt l [e] = none := by
  show (lvlT l).lookup e.text = none
  rw [h]
  match l with
  | 0 | 1 | 2 | 3 | 4 => rfl
  | _ + 5 => rfl
theorem loopJ_eq {lvl : Nat} {next : List Tk → PR} (he : Eats next) (x : Ex) (t : Tk) (r : List Tk) : loopJ lvl next (t :: r).length x (t :: r) = match opAt lvl [t] with
    | none => .ok x (t :: r)
    | some op => match next r with
      | .bad r2 er => .bad r2 er
      | .ok e2 r2 => if lvl = 2 then .ok (.bin op x e2) r2 else loopJ lvl next r2.length (.bin op x e2) r2 := by
  rw [List.length_cons]
  simp only [loopJ, List.tail_cons]
  rw [show opAt lvl (t :: r) = opAt lvl [t] from rfl]
  cases opAt lvl [t] with
  | none => rfl
  | some op =>
    cases hq : next r with
    | bad r2 er => rfl
    | ok e2 r2 =>
      simp only
      have := he _ _ _ hq
      rw [loopJ_more he r2.length r2 (Nat.le_refl _) r.length _ (by omega)]
theorem loopJ_cut {lvl : Nat} {next : List Tk → PR} (he : Eats next) (hc : CutR next) : ∀ (n : Nat) (us : List Tk), us.length ≤ n → ∀ (e : Tk) (vs : List Tk) (x : Ex), e.kind = 0 → e.text = [] →
    (∃ a r, r <:+ us ∧ loopJ lvl next (us ++ vs).length x (us ++ vs) = .ok a (r ++ vs) ∧ loopJ lvl next (us ++ [e]).length x (us ++ [e]) = .ok a (r ++ [e])) ∨
    (∃ r1 e1 r2 e2, loopJ lvl next (us ++ vs).length x (us ++ vs) = .bad r1 e1 ∧ loopJ lvl next (us ++ [e]).length x (us ++ [e]) = .bad r2 e2) ∨
    loopJ lvl next (us ++ [e]).length x (us ++ [e]) = .bad [e] 4 ∨ ∃ b, loopJ lvl next (us ++ [e]).length x (us ++ [e]) = .ok b [e]
  | _, [], _, e, vs, x, _, t0 => by
    refine .inr (.inr (.inr ⟨x, ?_⟩))
    rw [List.nil_append, loopJ_eq he, opAt_end t0]
  | 0, t :: us, hl, e, vs, x, _, _ => by simp at hl
  | n + 1, t :: us, hl, e, vs, x, k0, t0 => by
    rw [List.cons_append, List.cons_append, loopJ_eq he, loopJ_eq he]
    cases opAt lvl [t] with
    | none => exact .inl ⟨x, t :: us, List.suffix_refl _, rfl, rfl⟩
    | some op =>
      simp only
      rcases hc us e vs k0 t0 with ⟨a, r, hs, h1, h2⟩ | ⟨r1, e1, r2, e2, h1, h2⟩ | h | ⟨b, h⟩
      · rw [h1, h2]
        simp only
        by_cases h2l : lvl = 2
        · rw [if_pos h2l, if_pos h2l]
          exact .inl ⟨_, r, hs.trans (List.suffix_cons _ _), rfl, rfl⟩
        · rw [if_neg h2l, if_neg h2l]
          have := hs.length_le
          rw [List.length_cons] at hl
          rcases loopJ_cut he hc n r (by omega) e vs (.bin op x a) k0 t0 with ⟨b, r', hs', h3, h4⟩ | h | h | h
          · exact .inl ⟨b, r', (hs'.trans hs).trans (List.suffix_cons _ _), h3, h4⟩
          · exact .inr (.inl h)
          · exact .inr (.inr (.inl h))
          · exact .inr (.inr (.inr h))
      · rw [h1, h2]
        exact .inr (.inl ⟨r1, e1, r2, e2, rfl, rfl⟩)
      · rw [h]
        exact .inr (.inr (.inl rfl))
      · rw [h]
        refine .inr (.inr (.inr ⟨.bin op x b, ?_⟩))
        simp only
        split
        · rfl
        · rw [loopJ_eq he, opAt_end t0]
theorem joinL_cut {plain : List Tk → PR} (he : Eats plain) (hc : CutR plain) : ∀ k, CutR (joinL plain k)
  | 0 => hc
  | k + 1 => fun us e vs k0 t0 => by
    have ih := joinL_cut he hc k
    have hj := joinL_eats he k
    simp only [joinL]
    rcases ih us e vs k0 t0 with ⟨a, r, hs, h1, h2⟩ | ⟨r1, e1, r2, e2, h1, h2⟩ | h | ⟨b, h⟩
    · rw [h1, h2]
      simp only
      rcases loopJ_cut (lvl := 4 - k) hj ih r.length r (Nat.le_refl _) e vs a k0 t0 with ⟨b, r', hs', h3, h4⟩ | h | h | h
      · exact .inl ⟨b, r', hs'.trans hs, h3, h4⟩
      · exact .inr (.inl h)
      · exact .inr (.inr (.inl h))
      · exact .inr (.inr (.inr h))
    · rw [h1, h2]
      exact .inr (.inl ⟨r1, e1, r2, e2, rfl, rfl⟩)
    · rw [h]
      exact .inr (.inr (.inl rfl))
    · rw [h]
      refine .inr (.inr (.inr ⟨b, ?_⟩))
      simp only
      rw [loopJ_eq hj, opAt_end t0]
/-- What 'must' makes of a cut. -/
theorem mustT_cut {x : List UInt8} {next : List Tk → PR} (hc : CutR next) (k : Ex → Ex) (us : List Tk) (e : Tk) (vs : List Tk) (k0 : e.kind = 0) (t0 : e.text = []) (F : List Tk → PR) (hF : ∀ r, F r = match next r with | .bad r2 er => .bad r2 er | .ok y r2 => mustT x (k y) r2) :
    (∃ a r, r <:+ us ∧ F (us ++ vs) = .ok a (r ++ vs) ∧ F (us ++ [e]) = .ok a (r ++ [e])) ∨ (∃ r1 e1 r2 e2, F (us ++ vs) = .bad r1 e1 ∧ F (us ++ [e]) = .bad r2 e2) ∨ F (us ++ [e]) = .bad [e] 4 ∨ ∃ b, F (us ++ [e]) = .ok b [e] := by
  have hend : ∀ y, mustT x (k y) [e] = .bad [e] 4 := fun y => by
    unfold mustT
    rw [(head_hasT x).2 e k0 t0, if_neg Bool.false_ne_true, wrong0 k0]
  rw [hF, hF]
  rcases hc us e vs k0 t0 with ⟨a, r, hs, h1, h2⟩ | ⟨r1, e1, r2, e2, h1, h2⟩ | h | ⟨b, h⟩
  · rw [h1, h2]
    simp only
    cases r with
    | nil => exact .inr (.inr (.inl (hend a)))
    | cons t r =>
      unfold mustT
      rw [List.cons_append, List.cons_append, (head_hasT x).1, (head_hasT x).1 t (r ++ [e])]
      split
      · exact .inl ⟨k a, r, (List.suffix_cons t r).trans hs, rfl, rfl⟩
      · exact .inr (.inl ⟨_, _, _, _, rfl, rfl⟩)
  · rw [h1, h2]
    exact .inr (.inl ⟨r1, e1, r2, e2, rfl, rfl⟩)
  · rw [h]
    exact .inr (.inr (.inl rfl))
  · rw [h]
    exact .inr (.inr (.inl (hend b)))
theorem wrap_cut {next : List Tk → PR} (hc : CutR next) (k : Ex → Ex) (us : List Tk) (e : Tk) (vs : List Tk) (k0 : e.kind = 0) (t0 : e.text = []) (F : List Tk → PR) (hF : ∀ r, F r = match next r with | .bad r2 er => .bad r2 er | .ok y r2 => .ok (k y) r2) :
    (∃ a r, r <:+ us ∧ F (us ++ vs) = .ok a (r ++ vs) ∧ F (us ++ [e]) = .ok a (r ++ [e])) ∨ (∃ r1 e1 r2 e2, F (us ++ vs) = .bad r1 e1 ∧ F (us ++ [e]) = .bad r2 e2) ∨ F (us ++ [e]) = .bad [e] 4 ∨ ∃ b, F (us ++ [e]) = .ok b [e] := by
  rw [hF, hF]
  rcases hc us e vs k0 t0 with ⟨a, r, hs, h1, h2⟩ | ⟨r1, e1, r2, e2, h1, h2⟩ | h | ⟨b, h⟩
  · rw [h1, h2]
    exact .inl ⟨k a, r, hs, rfl, rfl⟩
  · rw [h1, h2]
    exact .inr (.inl ⟨r1, e1, r2, e2, rfl, rfl⟩)
  · rw [h]
    exact .inr (.inr (.inl rfl))
  · rw [h]
    exact .inr (.inr (.inr ⟨k b, rfl⟩))
/-- An alternative holds of longer tokens too. -/
theorem alt_cons {F G : List Tk → PR} {t : Tk} {us vs : List Tk} {e : Tk} (h1 : G (t :: (us ++ vs)) = F (us ++ vs)) (h2 : G (t :: (us ++ [e])) = F (us ++ [e]))
    (h : (∃ a r, r <:+ us ∧ F (us ++ vs) = .ok a (r ++ vs) ∧ F (us ++ [e]) = .ok a (r ++ [e])) ∨ (∃ r1 e1 r2 e2, F (us ++ vs) = .bad r1 e1 ∧ F (us ++ [e]) = .bad r2 e2) ∨ F (us ++ [e]) = .bad [e] 4 ∨ ∃ b, F (us ++ [e]) = .ok b [e]) :
    (∃ a r, r <:+ t :: us ∧ G (t :: us ++ vs) = .ok a (r ++ vs) ∧ G (t :: us ++ [e]) = .ok a (r ++ [e])) ∨ (∃ r1 e1 r2 e2, G (t :: us ++ vs) = .bad r1 e1 ∧ G (t :: us ++ [e]) = .bad r2 e2) ∨ G (t :: us ++ [e]) = .bad [e] 4 ∨ ∃ b, G (t :: us ++ [e]) = .ok b [e] := by
  rw [List.cons_append, List.cons_append, h1, h2]
  rcases h with ⟨a, r, hs, h⟩ | h | h | h
  · exact .inl ⟨a, r, hs.trans (List.suffix_cons _ _), h⟩
  · exact .inr (.inl h)
  · exact .inr (.inr (.inl h))
  · exact .inr (.inr (.inr h))
theorem open0 {e : Tk} (k0 : e.kind = 0) : openT [e] = false := by simp [openT, hasT, k0]
theorem plainD_cut : ∀ d, CutR (plainD d)
  | d, [], e, vs, k0, _ => by
    refine .inr (.inr (.inl ?_))
    rw [List.nil_append]
    cases d <;> simp [plainD, open0 k0, wrong0 k0]
  | 0, t :: us, e, vs, _, _ => by
    refine .inr (.inl ?_)
    simp only [List.cons_append, plainD]
    have h : ∀ X : List Tk, ∃ r er, (if openT (t :: X) = true then PR.bad (t :: X) 25 else PR.bad (t :: X) (wrongT (t :: X))) = .bad r er := fun X => by
      split <;> exact ⟨_, _, rfl⟩
    obtain ⟨r1, e1, h1⟩ := h (us ++ vs)
    obtain ⟨r2, e2, h2⟩ := h (us ++ [e])
    exact ⟨r1, e1, r2, e2, h1, h2⟩
  | d + 1, t :: us, e, vs, k0, t0 => by
    have ih := plainD_cut d
    have ij := joinL_cut (plainD_eats d) ih 5
    have ho : ∀ X : List Tk, openT (t :: X) = openT [t] := fun _ => rfl
    by_cases h0 : openT [t] = false
    · refine .inr (.inl ?_)
      simp only [List.cons_append, plainD]
      rw [ho, ho (us ++ [e]), if_pos h0, if_pos h0]
      exact ⟨_, _, _, _, rfl, rfl⟩
    · by_cases h2 : t.kind = 2
      · refine .inl ⟨.num t.n, us, List.suffix_cons _ _, ?_, ?_⟩
        · simp only [List.cons_append, plainD]
          rw [ho, if_neg h0, if_pos h2]
        · simp only [List.cons_append, plainD]
          rw [ho, if_neg h0, if_pos h2]
      · by_cases h1 : t.kind = 1
        · have hp : ∀ X : List Tk, plainD (d + 1) (t :: X) = if hasT [91] X then (match joinL (plainD d) 5 X.tail with
              | .bad r2 er => .bad r2 er
              | .ok y r2 => mustT [93] (.idx t.text y) r2) else .ok (.nam t.text) X := fun X => by
            simp only [plainD]
            rw [ho, if_neg h0, if_neg h2, if_pos h1]
            rfl
          cases us with
          | nil =>
            refine .inr (.inr (.inr ⟨.nam t.text, ?_⟩))
            rw [List.cons_append, List.nil_append, hp, (head_hasT [91]).2 e k0 t0, if_neg Bool.false_ne_true]
          | cons u us =>
            by_cases hb : hasT [91] [u] = true
            · have hq : ∀ X : List Tk, plainD (d + 1) (t :: u :: X) = (fun r => match joinL (plainD d) 5 r with
                  | .bad r2 er => .bad r2 er
                  | .ok y r2 => mustT [93] (.idx t.text y) r2) X := fun X => by
                rw [hp, (head_hasT [91]).1, if_pos hb, List.tail_cons]
              have h := mustT_cut ij (.idx t.text) us e vs k0 t0 (x := [93]) (fun r : List Tk => match joinL (plainD d) 5 r with | .bad r2 er => .bad r2 er | .ok y r2 => mustT [93] (.idx t.text y) r2) (fun r => rfl)
              have h' := alt_cons (t := u) (F := (fun r : List Tk => match joinL (plainD d) 5 r with | .bad r2 er => .bad r2 er | .ok y r2 => mustT [93] (.idx t.text y) r2)) (G := fun r => (fun r : List Tk => match joinL (plainD d) 5 r with | .bad r2 er => .bad r2 er | .ok y r2 => mustT [93] (.idx t.text y) r2) r.tail) rfl rfl h
              refine alt_cons (F := fun r => (fun r : List Tk => match joinL (plainD d) 5 r with | .bad r2 er => .bad r2 er | .ok y r2 => mustT [93] (.idx t.text y) r2) r.tail) ?_ ?_ h'
              · rw [List.cons_append]
                exact hq _
              · rw [List.cons_append]
                exact hq _
            · refine .inl ⟨.nam t.text, u :: us, List.suffix_cons _ _, ?_, ?_⟩
              · rw [List.cons_append, hp, List.cons_append, (head_hasT [91]).1, if_neg hb]
              · rw [List.cons_append, hp, List.cons_append, (head_hasT [91]).1, if_neg hb]
        · by_cases hx : t.text = [40]
          · have hp : ∀ X : List Tk, plainD (d + 1) (t :: X) = (match joinL (plainD d) 5 X with
                | .bad r2 er => .bad r2 er
                | .ok y r2 => mustT [41] y r2) := fun X => by
              simp only [plainD]
              rw [ho, if_neg h0, if_neg h2, if_neg h1, if_pos hx]
              rfl
            refine alt_cons (F := (fun X => match joinL (plainD d) 5 X with
                | .bad r2 er => .bad r2 er
                | .ok y r2 => mustT [41] y r2)) ?_ ?_ (mustT_cut ij id us e vs k0 t0 (x := [41]) (fun X => match joinL (plainD d) 5 X with
                | .bad r2 er => .bad r2 er
                | .ok y r2 => mustT [41] y r2) (fun r => rfl))
            · exact hp _
            · exact hp _
          · by_cases hy : t.text = [45]
            · have hp : ∀ X : List Tk, plainD (d + 1) (t :: X) = (match plainD d X with
                  | .bad r2 er => .bad r2 er
                  | .ok y r2 => .ok (.neg y) r2) := fun X => by
                simp only [plainD]
                rw [ho, if_neg h0, if_neg h2, if_neg h1, if_neg hx, if_pos hy]
                rfl
              refine alt_cons (F := (fun X => match plainD d X with
                  | .bad r2 er => .bad r2 er
                  | .ok y r2 => .ok (.neg y) r2)) ?_ ?_ (wrap_cut ih .neg us e vs k0 t0 (fun X => match plainD d X with
                  | .bad r2 er => .bad r2 er
                  | .ok y r2 => .ok (.neg y) r2) (fun r => rfl))
              · exact hp _
              · exact hp _
            · have hp : ∀ X : List Tk, plainD (d + 1) (t :: X) = (match plainD d X with
                  | .bad r2 er => .bad r2 er
                  | .ok y r2 => .ok (.non y) r2) := fun X => by
                simp only [plainD]
                rw [ho, if_neg h0, if_neg h2, if_neg h1, if_neg hx, if_neg hy]
                rfl
              refine alt_cons (F := (fun X => match plainD d X with
                  | .bad r2 er => .bad r2 er
                  | .ok y r2 => .ok (.non y) r2)) ?_ ?_ (wrap_cut ih .non us e vs k0 t0 (fun X => match plainD d X with
                  | .bad r2 er => .bad r2 er
                  | .ok y r2 => .ok (.non y) r2) (fun r => rfl))
              · exact hp _
              · exact hp _
theorem expr_cut : CutC True exprP := fun us e vs k0 t0 => by
  unfold exprP
  rcases joinL_cut (plainD_eats 16) (plainD_cut 16) 5 us e vs k0 t0 with ⟨a, r, hs, h1, h2⟩ | ⟨r1, e1, r2, e2, h1, h2⟩ | h | ⟨b, h⟩
  · rw [h1, h2]
    exact .inl ⟨a, r, hs, rfl, rfl⟩
  · rw [h1, h2]
    exact .inr (.inl ⟨r1, e1, r2, e2, rfl, rfl⟩)
  · rw [h]
    exact .inr (.inr (.inl rfl))
  · rw [h]
    exact .inr (.inr (.inr ⟨trivial, b, rfl⟩))
theorem joinL_at0 {plain : List Tk → PR} {e : Tk} (h : plain [e] = .bad [e] 4) : ∀ k, joinL plain k [e] = .bad [e] 4
  | 0 => h
  | k + 1 => by
    simp only [joinL]
    rw [joinL_at0 h k]
theorem expr_at0 : At0 False exprP := fun e k0 _ => by
  left
  unfold exprP
  rw [joinL_at0 (by simp [plainD, open0 k0, wrong0 k0])]
  rfl
end Go.Proofs.YtdmlnoeneoomfaaDoor
namespace Go.Proofs.YtdmlnoeneoomfaaDoor

theorem assign_cut : CutC True assignP := CutC.sharp name_cut fun nm => CutC.ite (head_hasT [91])
  (g := fun r => (exprP r).bind fun e r => (mustP [93] r).bind fun _ r => (mustP [61] r).bind fun _ r => (exprP r).bind fun e2 r => PS.ok (St.mk 1 nm [e, e2] 0 0 [] []) r)
  (h := fun r => (mustP [61] r).bind fun _ r => (exprP r).bind fun e r => PS.ok (St.mk 0 nm [e] 0 0 [] []) r)
  (CutC.bind expr_cut (fun _ => CutC.sharp (must_cut _) fun _ => CutC.sharp (must_cut _) fun _ => CutC.bind expr_cut (fun _ => CutC.ok _) (fun _ _ => At0.ok _)) (fun _ _ => At0.sharp (must_at0 _)))
  (CutC.sharp (must_cut _) fun _ => CutC.bind expr_cut (fun _ => CutC.ok _) (fun _ _ => At0.ok _)) (At0.sharp (must_at0 _))
theorem stmt_cut : ∀ d, CutC True (stmtD d)
  | 0 => fun us e vs _ _ => .inr (.inl ⟨_, _, _, _, rfl, rfl⟩)
  | d + 1 => by
    have ih : CutC True fun r => listP beginsT (stmtD d) r.length [] r := listL_cut head_begins rfl (stmt_eats d) (stmt_cut d) []
    have i0 : At0 True fun r => listP beginsT (stmtD d) r.length [] r := listL_at0 head_begins []
    have ee : ∀ (k : Ex → St), CutC True fun r => (exprP r).bind fun e r => PS.ok (k e) r := fun k => CutC.bind expr_cut (fun _ => CutC.ok _) (fun _ _ => At0.ok _)
    exact CutC.ite2 (head_kind (by decide)) assign_cut (CutC.sharp word_cut fun _ => CutC.if_ _
      (CutC.bind expr_cut (fun _ => CutC.sharp (must_cut _) fun _ => CutC.bind ih (fun _ => CutC.bind (CutC.ite (head_hasT _) (g := fun r => listP beginsT (stmtD d) r.length [] r) (h := fun r => PS.ok [] r) ih (CutC.ok []) (At0.ok [])) (fun _ => CutC.sharp (must_cut _) fun _ => CutC.ok _) (fun _ _ => At0.sharp (must_at0 _)))
        (fun _ _ => At0.bind (At0.ite (head_hasT _) (g := fun r => listP beginsT (stmtD d) r.length [] r) (h := fun r => PS.ok [] r) (At0.ok [])) (fun _ _ => At0.sharp (must_at0 _)))) (fun _ _ => At0.sharp (must_at0 _)))
      (CutC.if_ _ (CutC.sharp name_cut fun _ => CutC.sharp signed_cut fun _ => CutC.sharp signed_cut fun _ => CutC.sharp (must_cut _) fun _ => CutC.bind ih (fun _ => CutC.sharp (must_cut _) fun _ => CutC.ok _) (fun _ _ => At0.sharp (must_at0 _)))
      (CutC.if_ _ (CutC.ok _) (CutC.if_ _ (CutC.sharp name_cut fun _ => CutC.sharp num_cut fun _ => CutC.ok _)
      (CutC.if_ _ (ee _) (CutC.if_ _ (CutC.ok _) (CutC.if_ _ (CutC.bind expr_cut (fun _ => ee _) (fun _ _ => (At0.sharp expr_at0))) (ee _)))))))) (At0.sharp word_at0)
theorem part_cut : CutC False partP := CutC.bind (listL_cut head_begins rfl (stmt_eats 16) (stmt_cut 16) []) (fun _ => CutC.sharp (must_cut _) fun _ => CutC.ok _) (fun _ _ => At0.sharp (must_at0 _))
theorem part_at0 : At0 False partP := At0.bind (listL_at0 head_begins []) (fun _ _ => At0.sharp (must_at0 _))
theorem sz_cut : CutC True fun r => (if hasT [91] r then (numP r.tail).bind fun n r => (mustP [93] r).bind fun _ r => PS.ok n r else PS.ok (0 : Int) r) := CutC.ite (head_hasT _) (g := fun r => (numP r).bind fun n r => (mustP [93] r).bind fun _ r => PS.ok n r) (h := fun r => PS.ok (0 : Int) r)
  (CutC.sharp num_cut fun _ => CutC.sharp (must_cut _) fun _ => CutC.ok _) (CutC.ok _) (At0.ok _)
theorem variable_cut : CutC False variableP := CutC.sharp (must_cut _) fun _ => CutC.sharp name_cut fun _ => CutC.bind sz_cut (fun _ => CutC.sharp signed_cut fun _ => CutC.sharp signed_cut fun _ => CutC.ok _) (fun _ _ => At0.sharp signed_at0)
theorem parameter_cut : CutC False parameterP := CutC.sharp name_cut fun _ => CutC.sharp signed_cut fun _ => CutC.sharp signed_cut fun _ => CutC.ok _
theorem another_cut : CutC False anotherP := CutC.sharp (must_cut _) fun _ => parameter_cut
/-- What stands behind play, with its statements. -/
def playP (r : List Tk) : PS (List Va × List St) := (paramsP r).bind fun ps r => (partP r).bind fun pl r => .ok (ps, pl) r
theorem play_nil {r : List Tk} (h : kindT 1 r = false ∨ behindT r = false) : playP r = (partP r).bind fun pl r => .ok ([], pl) r := by
  unfold playP paramsP
  by_cases h1 : kindT 1 r = false
  · rw [if_pos h1]
    rfl
  · rw [if_neg h1, if_pos (h.resolve_left h1)]
    rfl
theorem play_some {r : List Tk} (h : kindT 1 r = true) (h2 : behindT r = true) : playP r = (parameterP r).bind fun v r => (listP (hasT [44]) anotherP r.length [v] r).bind fun ps r => (partP r).bind fun pl r => .ok (ps, pl) r := by
  unfold playP paramsP
  rw [if_neg (by rw [h]; decide), if_neg (by rw [h2]; decide), PS.bind_assoc]
theorem play_cut : CutC False playP := fun us e vs k0 t0 => by
  have hpart : CutC False fun r => (partP r).bind fun pl r => PS.ok (([] : List Va), pl) r := CutC.sharp part_cut fun _ => CutC.ok _
  have hpart0 : At0 False fun r => (partP r).bind fun pl r => PS.ok (([] : List Va), pl) r := At0.sharp part_at0
  have hlong : CutC False fun r => (parameterP r).bind fun v r => (listP (hasT [44]) anotherP r.length [v] r).bind fun ps r => (partP r).bind fun pl r => PS.ok (ps, pl) r :=
    CutC.sharp parameter_cut fun v => CutC.bind (listL_cut (head_hasT [44]) rfl another_eats another_cut [v]) (fun _ => CutC.sharp part_cut fun _ => CutC.ok _) (fun _ _ => At0.sharp part_at0)
  cases us with
  | nil =>
    refine .inr (.inr ?_)
    rw [List.nil_append, play_nil (.inl (by simp [kindT, k0]))]
    exact hpart0 e k0 t0
  | cons t us =>
    cases us with
    | nil =>
      by_cases hk : t.kind = 1
      · refine .inr (.inr (.inl ?_))
        rw [List.cons_append, List.nil_append, play_nil (.inr (by simp [behindT, k0, t0]))]
        have hb : beginsT [t, e] = true := by simp [beginsT, hk]
        have hs : stmtD 16 [t, e] = .bad [e] 4 := by
          rw [show stmtD 16 [t, e] = assignP [t, e] from by simp only [stmtD, kindT, hk, decide_true, if_true]]
          have hn : nameP [t, e] = .ok t.text [e] := by simp [nameP, takeP, hk, PS.ok_bind]
          have hm : mustP [61] [e] = .bad [e] 4 := (must_at0 [61] e k0 t0).resolve_right (fun h => h.1)
          unfold assignP
          rw [hn]
          simp only [PS.ok_bind]
          rw [(head_hasT [91]).2 e k0 t0, if_neg Bool.false_ne_true, hm]
          rfl
        unfold partP
        rw [show ([t, e] : List Tk).length = 1 + 1 from rfl]
        simp only [listP]
        rw [if_pos hb, hs]
        rfl
      · have hn : ∀ X : List Tk, playP (t :: X) = (partP (t :: X)).bind fun pl r => .ok ([], pl) r := fun X => play_nil (.inl (by simp [kindT, hk]))
        have h := hpart [t] e vs k0 t0
        simp only [List.cons_append, List.nil_append] at h ⊢
        rw [hn, hn]
        exact h
    | cons u us =>
      have hb : ∀ X : List Tk, behindT (t :: u :: X) = behindT [t, u] := fun _ => rfl
      have hk : ∀ X : List Tk, kindT 1 (t :: X) = kindT 1 [t] := fun _ => rfl
      by_cases h : kindT 1 [t] = false ∨ behindT [t, u] = false
      · have hn : ∀ X : List Tk, playP (t :: u :: X) = (partP (t :: u :: X)).bind fun pl r => .ok ([], pl) r := fun X => play_nil (by rw [hb, hk]; exact h)
        have h2 := hpart (t :: u :: us) e vs k0 t0
        simp only [List.cons_append] at h2 ⊢
        rw [hn, hn]
        exact h2
      · simp only [not_or, Bool.not_eq_false] at h
        have hn : ∀ X : List Tk, playP (t :: u :: X) = (parameterP (t :: u :: X)).bind fun v r => (listP (hasT [44]) anotherP r.length [v] r).bind fun ps r => (partP r).bind fun pl r => .ok (ps, pl) r := fun X => play_some (by rw [hk]; exact h.1) (by rw [hb]; exact h.2)
        have h2 := hlong (t :: u :: us) e vs k0 t0
        simp only [List.cons_append] at h2 ⊢
        rw [hn, hn]
        exact h2
theorem progP_play (r : List Tk) : progP r = (mustP [103, 97, 109, 101] r).bind fun _ r => (nameP r).bind fun nm r => (mustP [115, 101, 97, 116, 115] r).bind fun _ r => (numP r).bind fun seats r =>
  (mustP [115, 116, 97, 107, 101] r).bind fun _ r => (numP r).bind fun s0 r => (listP (kindT 2) numP r.length [] r).bind fun ss r =>
  (listP (hasT [118, 97, 114]) variableP r.length [] r).bind fun vars r => (mustP [115, 116, 97, 114, 116] r).bind fun _ r => (partP r).bind fun start r =>
  (mustP [116, 117, 114, 110] r).bind fun _ r => (partP r).bind fun turn r => (mustP [112, 108, 97, 121] r).bind fun _ r => (playP r).bind fun pp r =>
  (mustP [115, 105, 108, 101, 110, 116] r).bind fun _ r => (nameP r).bind fun silent r => (partP r).bind fun quiet r => (mustP [112, 97, 121] r).bind fun _ r => (partP r).bind fun pays r =>
  .ok ⟨nm, seats, s0 :: ss, vars, start, turn, pp.1, pp.2, silent, quiet, pays⟩ r := by
  unfold progP playP
  simp only [PS.bind_assoc, PS.ok_bind]
theorem prog_cut : CutC False progP := by
  have e : progP = _ := funext progP_play
  rw [e]
  exact CutC.sharp (must_cut _) fun _ => CutC.sharp name_cut fun _ => CutC.sharp (must_cut _) fun _ => CutC.sharp num_cut fun _ => CutC.sharp (must_cut _) fun _ => CutC.sharp num_cut fun _ =>
    CutC.bind (listL_cut (head_kind (by decide)) rfl num_eats num_cut []) (fun _ => CutC.bind (listL_cut (head_hasT _) rfl variable_eats variable_cut []) (fun _ => CutC.sharp (must_cut _) fun _ => CutC.sharp part_cut fun _ => CutC.sharp (must_cut _) fun _ => CutC.sharp part_cut fun _ => CutC.sharp (must_cut _) fun _ =>
      CutC.sharp play_cut fun _ => CutC.sharp (must_cut _) fun _ => CutC.sharp name_cut fun _ => CutC.sharp part_cut fun _ => CutC.sharp (must_cut _) fun _ => CutC.sharp part_cut fun _ => CutC.ok _)
      (fun _ _ => At0.sharp (must_at0 _))) (fun _ _ => At0.bind (listL_at0 (head_hasT _) []) (fun _ _ => At0.sharp (must_at0 _)))
/-- A program's text, as tokens: all of them are taken. -/
theorem prog_whole {us : List Tk} {e : Tk} (hu : ∀ u ∈ us, u.kind ≠ 0) (k0 : e.kind = 0) (t0 : e.text = []) {pg : Pg} (h : endP (progP (us ++ [e])) = .ok pg) : progP (us ++ [e]) = .ok pg [e] := by
  rcases prog_cut us e [e] k0 t0 with ⟨a, r, hs, h1, -⟩ | ⟨r1, e1, r2, e2, h1, -⟩ | h1 | h1
  · rw [h1] at h ⊢
    cases r with
    | nil =>
      simp only [List.nil_append, endP, k0, if_true] at h ⊢
      rw [OutP.ok.inj h]
    | cons t r =>
      exfalso
      simp only [List.cons_append, endP] at h
      rw [if_neg (hu t (hs.subset (List.mem_cons_self ..)))] at h
      cases h
  · rw [h1] at h
    cases r1 <;> cases h
  · rw [h1] at h
    cases h
  · exact h1.1.elim
theorem okJ_good {us : List Tk} (h : ∀ u ∈ us, Good u) : okJ us = true ∧ (∀ t ∈ us, t.text.length ≤ 60) ∧ texts us = us.map Tk.text := by
  refine ⟨?_, fun t ht => by have := (good_len (h t ht)).1; omega, ?_⟩
  · unfold okJ
    rw [decide_eq_true_iff]
    intro i hi
    have := good_len (h _ (List.getElem_mem hi))
    exact ⟨this.2.2, fun h => this.2.1 h.1⟩
  · unfold texts
    rw [filter_us (fun u hu => (good_len (h u hu)).2.1)]
/-- A front of a program's tokens ends too early. -/
theorem cuts_front {l : List UInt8} {ts : List Tk} {pg : Pg} (h : lexS l = .ok ts) (hp : progO l = .ok pg) (k : Nat) (hk : k + 1 < ts.length) : okJ (ts.take k) = true ∧ (∀ t ∈ ts.take k, t.text.length ≤ 60) ∧ (progO (Lib.join (texts (ts.take k)) [32])).e = 4 := by
  obtain ⟨us, L, C, rfl, hg, -, -⟩ := lexS_good h
  rw [progO_ok h] at hp
  have hu : ∀ u ∈ us, u.kind ≠ 0 := fun u hm => (good_len (hg u hm)).2.1
  have hw := prog_whole hu rfl rfl hp
  rw [List.length_append, List.length_singleton] at hk
  have htk : (us ++ [(⟨0, [], 0, L, C⟩ : Tk)]).take k = us.take k := List.take_append_of_le_length (by omega)
  rw [htk]
  have hgk : ∀ u ∈ us.take k, Good u := fun u hm => hg u (List.mem_of_mem_take hm)
  obtain ⟨h1, h2, h3⟩ := okJ_good hgk
  refine ⟨h1, h2, ?_⟩
  rw [h3]
  obtain ⟨xs, L', C', h4, h5⟩ := lexS_join hgk
  rw [progO_ok h4]
  have hb : progP (us.take k ++ [⟨0, [], 0, L', C'⟩]) = .bad [⟨0, [], 0, L', C'⟩] 4 := by
    have hsplit : us.take k ++ (us.drop k ++ [⟨0, [], 0, L, C⟩]) = us ++ [⟨0, [], 0, L, C⟩] := by rw [← List.append_assoc, List.take_append_drop]
    rcases prog_cut (us.take k) ⟨0, [], 0, L', C'⟩ (us.drop k ++ [⟨0, [], 0, L, C⟩]) rfl rfl with ⟨a, r, hs, h6, -⟩ | ⟨r1, e1, r2, e2, h6, -⟩ | h6 | h6
    · exfalso
      rw [hsplit, hw] at h6
      injection h6 with _ h6
      have := congrArg List.length h6
      simp only [List.length_append, List.length_drop, List.length_singleton] at this
      omega
    · rw [hsplit, hw] at h6
      cases h6
    · exact h6
    · exact h6.1.elim
  have e1 : (xs ++ [(⟨0, [], 0, L', C'⟩ : Tk)]).map Tk.z = (us.take k ++ [(⟨0, [], 0, L', C'⟩ : Tk)]).map Tk.z := by
    rw [List.map_append, List.map_append, bare_z h5]
  have h6 := endP_z (progP (xs ++ [⟨0, [], 0, L', C'⟩]))
  rw [← progP_z, e1, progP_z, hb] at h6
  exact h6.1.symm
theorem lex_end : lexS [101, 110, 100] = .ok [⟨3, [101, 110, 100], 0, 1, 1⟩, ⟨0, [], 0, 1, 4⟩] := by decide +kernel
/-- With a token more at the end it is no program. -/
theorem cuts_more {l : List UInt8} {pg : Pg} (hp : progO l = .ok pg) : ∃ L : Int, 0 < L ∧ progO (l ++ [10, 101, 110, 100]) = .bad L 1 3 := by
  cases h : lexS l with
  | err L C E => rw [progO_err h] at hp; cases hp
  | ok ts =>
    obtain ⟨us, L, C, rfl, hg, -, -⟩ := lexS_good h
    rw [progO_ok h] at hp
    have hu : ∀ u ∈ us, u.kind ≠ 0 := fun u hm => (good_len (hg u hm)).2.1
    have hw := prog_whole hu rfl rfl hp
    have h2 := lexS_two l [101, 110, 100]
    rw [h, lex_end] at h2
    simp only [List.dropLast_concat] at h2
    obtain ⟨k, hk⟩ : ∃ k : Int, (1 : Int) + (l.count 10 : Int) = k := ⟨_, rfl⟩
    have hk0 : 0 < k := by omega
    rw [show l ++ [10, 101, 110, 100] = l ++ 10 :: [101, 110, 100] from rfl, progO_ok h2]
    refine ⟨1 + k, by omega, ?_⟩
    rcases prog_cut us ⟨0, [], 0, L, C⟩ [⟨3, [101, 110, 100], 0, 1 + k, 1⟩, ⟨0, [], 0, 1 + k, 4⟩] rfl rfl with ⟨a, r, hs, h6, h7⟩ | ⟨r1, e1, r2, e2, -, h7⟩ | h7 | h7
    · rw [hw] at h7
      injection h7 with _ h7
      have hr : r = [] := by
        have := congrArg List.length h7
        simp only [List.length_append, List.length_singleton] at this
        exact List.eq_nil_of_length_eq_zero (by omega)
      subst hr
      rw [← hk] at h6 ⊢
      exact (congrArg endP h6).trans rfl
    · rw [hw] at h7; cases h7
    · rw [hw] at h7; cases h7
    · exact h7.1.elim
end Go.Proofs.YtdmlnoeneoomfaaDoor
namespace Go.Proofs.YtdmlnoeneoomfaaDoor
open Go.RowKit

theorem tks_take (ts : List Tk) : ∀ (k : Nat), tksCells (ts.take k) = (tksCells ts).take (k * 5) := by
  induction ts with
  | nil => intro k; simp [tksCells]
  | cons t ts ih =>
    intro k
    cases k with
    | zero => simp [tksCells]
    | succ k =>
      rw [List.take_succ_cons]
      have h1 : ∀ l, tksCells (t :: l) = tkCells t ++ tksCells l := fun l => by simp [tksCells]
      have h2 : (tkCells t).length = 5 := rfl
      rw [h1, h1, ih k, List.take_append, h2, List.take_of_length_le (l := tkCells t) (by rw [h2]; omega), show (k + 1) * 5 - 5 = k * 5 from by omega]
theorem prog_some {l : List UInt8} {ts : List Tk} {pg : Pg} (h : lexS l = .ok ts) (hp : progO l = .ok pg) : 2 ≤ ts.length := by
  obtain ⟨us, L, C, rfl, hg, -, -⟩ := lexS_good h
  rw [progO_ok h] at hp
  have hw := prog_whole (fun u hm => (good_len (hg u hm)).2.1) rfl rfl hp
  cases us with
  | nil =>
    exfalso
    rw [List.nil_append] at hw
    have : progP [⟨0, [], 0, L, C⟩] = .bad [⟨0, [], 0, L, C⟩] 4 := by
      unfold progP
      rw [(must_at0 [103, 97, 109, 101] ⟨0, [], 0, L, C⟩ rfl rfl).resolve_right (fun h => h.1)]
      rfl
    rw [this] at hw
    cases hw
  | cons u us => simp
theorem own_cap {w : World} {base n c : Nat} {A : Option Addr} {ts : List Tk} (h : OT w base (.slice A n c) ts) : n ≤ c := by
  rcases h.2 with ⟨hv, h0⟩ | ⟨g, cap, cur, hv, _, _, hc, _⟩
  · injection hv with _ h1 _
    omega
  · injection hv with _ h1 h2
    omega
theorem texts_mono (ts : List Tk) (k : Nat) : Lib.lens (texts (ts.take k)) + (texts (ts.take k)).length ≤ Lib.lens (texts ts) + (texts ts).length := by
  have h : texts ts = texts (ts.take k) ++ texts (ts.drop k) := by
    unfold texts
    rw [← List.map_append, ← List.filter_append, List.take_append_drop]
  rw [h, List.length_append]
  unfold Lib.lens
  rw [List.map_append, List.sum_append]
  omega
theorem zero_pd (w : World) : PD (fun _ => True) w [.string ⟨#[]⟩, .int .i64 0, .slice none 0 0, .slice none 0 0, .slice none 0 0, .slice none 0 0, .slice none 0 0, .slice none 0 0, .string ⟨#[]⟩, .slice none 0 0, .slice none 0 0] zeroPg := by
  have hn : ∀ {α : Type} (s : Nat) (Q : Cel α), RowD (fun _ => True) s Q w [] (.slice none 0 0) := fun s Q => ⟨none, 0, 0, rfl, ElsG.none_ _ _ _ _ _ _⟩
  exact ⟨_, _, _, _, _, _, _, _, rfl, hn _ _, hn _ _, hn _ _, hn _ _, hn _ _, hn _ _, hn _ _, hn _ _⟩
set_option maxHeartbeats 8000000 in
set_option maxRecDepth 100000 in
theorem cuts_walk (s : ByteArray) (n : Nat) (w : World) (hT : Spaces w) (hs : s.size ≤ 9223372036854775807) (hn : n < 65536) : Calls Tryd.prog 7 #[.string s, .int .u16 (n : Int)] w (Tells w true) := by
  have KN := Lib.hid (fun W hW => known_any W (hT.below (w' := W) hW))
  have K0 := Lib.hid (known_any w hT)
  have TKS := Lib.hid (fun W hW hs => tokens_any s W (hT.below (w' := W) hW) hs)
  have PA := Lib.hid (fun s W hW hs => Parse_any s W (hT.below (w' := W) hW) hs)
  have JN := Lib.hid (fun ts A n c W hW hr hn hb hx => lexJoin_any ts A n c W (hT.below (w' := W) hW) hr hn hb hx)
  clear hT
  by_cases hbig : 4000 < s.size
  · have g0 : decide ((4000 : Int) < (s.size : Int)) = true := by simp; omega
    go_enter Tryd.func7, Tryd.ntmps7
    go_wp2_with fail
    refine K0.out.mono ?_
    rintro e w1 ⟨rfl, b1⟩
    go_wp2_with fail
    refine (KN.out w1 b1).mono ?_
    rintro e w2 ⟨rfl, b2⟩
    go_wp2_with fail
    go_ret
    exact ⟨rfl, b1.trans (b2.mono b1.size)⟩
  · have g0 : decide ((4000 : Int) < (s.size : Int)) = false := by simp; omega
    have hsz : s.data.toList.length = s.size := by simp
    have HSZ := Lib.hid hsz
    clear hsz
    go_enter Tryd.func7, Tryd.ntmps7
    go_wp2_with fail
    refine K0.out.mono ?_
    rintro e w1 ⟨rfl, b1⟩
    have B1 := Lib.hid b1
    have P1 := Lib.hid (PA.out s w1 b1 (by omega))
    clear b1
    go_upto_region 3 with fail
    go_wp2_with fail
    refine P1.out.mono ?_
    rintro e w2 ⟨anm, ase, asi, aA1, an1, ac1, aA2, an2, ac2, aA3, an3, ac3, aA4, an4, ac4, aA5, an5, ac5, aA6, an6, ac6, aA7, an7, ac7, aA8, an8, ac8, La, Ca, Ea, rfl, b2, h2⟩
    have B2 := Lib.hid (B1.out.trans (b2.mono B1.out.size))
    have B2a : Hid (Below w.heap.size w ((w2.alloc (.cells #[.string anm, .int .i64 ase, .slice aA1 an1 ac1, .slice aA2 an2 ac2, .slice aA3 an3 ac3, .slice aA4 an4 ac4, .slice aA5 an5 ac5, .slice aA6 an6 ac6, .string asi, .slice aA7 an7 ac7, .slice aA8 an8 ac8] 54)).alloc (.cells #[.int .i64 La, .int .i64 Ca] 27))) := (B2.out.alloc B2.out.size _).alloc (by have := B2.out.size; simp; omega) _
    have H2 := Lib.hid h2
    clear b2 h2 P1
    cases hq : progO s.data.toList with
    | bad L0 C0 E0 =>
      have hE : Ea ≠ 0 := by
        have h := H2.out
        rw [hq] at h
        exact h.2.2.2.1
      have hE' : (Ea == 0) = false := by simp [hE]
      clear hq H2
      go_wp2_with fail
      go_ret
      exact ⟨rfl, B2a.out⟩
    | ok pg =>
      have hE : Ea = 0 := by
        have h := H2.out
        rw [hq] at h
        exact h.1
      subst hE
      have HQ := Lib.hid hq
      have TK1 := Lib.hid (TKS.out _ B2a.out (by omega))
      clear hq H2
      go_upto_region 6 with fail
      generalize (w2.alloc (.cells #[.string anm, .int .i64 ase, .slice aA1 an1 ac1, .slice aA2 an2 ac2, .slice aA3 an3 ac3, .slice aA4 an4 ac4, .slice aA5 an5 ac5, .slice aA6 an6 ac6, .string asi, .slice aA7 an7 ac7, .slice aA8 an8 ac8] 54)).alloc (.cells #[.int .i64 La, .int .i64 Ca] 27) = W3 at *
      go_wp2_with fail
      refine TK1.out.mono ?_
      intro e w4 hp
      obtain ⟨A, m, c, L, C, E, ts, rfl, hm, hot, hb4, hcase⟩ := tok_gen hp
      have B4 := Lib.hid (B2a.out.trans (hb4.mono B2a.out.size))
      have HOT := Lib.hid hot
      have HM := Lib.hid hm
      have hE : E = 0 := by
        rcases hcase with h | h
        · exact h.2
        · exfalso
          have h1 := HQ.out
          rw [progO_err h.1] at h1
          cases h1
      subst hE
      obtain ⟨hlx, -⟩ := hcase.resolve_right (fun h => (lexS_err h.1).1 rfl)
      have B5 : Hid (Below w.heap.size w (w4.alloc (.cells #[.int .i64 L, .int .i64 C] 48))) := B4.out.alloc B4.out.size _
      have f45 : Below w4.heap.size w4 (w4.alloc (.cells #[.int .i64 L, .int .i64 C] 48)) := (Below.refl _ w4).al _
      have RD : Hid (Reads (w4.alloc (.cells #[.int .i64 L, .int .i64 C] 48)) (w4.alloc (.cells #[.int .i64 L, .int .i64 C] 48)).heap.size 5 A m (tksCells ts)) := ((HOT.out.reads HM.out |> (HM.out ▸ ·)) : Reads w4 w4.heap.size 5 A m (tksCells ts)).below f45 |>.more f45.size
      have hcap := own_cap hot
      have h2 := prog_some hlx HQ.out
      have hmm : 2 ≤ m := by rw [HM.out]; exact h2
      obtain ⟨us, L', C', hts, -⟩ := lexS_ok hlx
      have hlim : m ≤ 4001 := by
        obtain ⟨us, L', C', hts, hul⟩ := lexS_ok hlx
        have h1 := HM.out
        have h3 := HSZ.out
        rw [hts] at h1
        simp at h1
        omega
      obtain ⟨k, hk⟩ : ∃ k, n % (m - 1) = k := ⟨_, rfl⟩
      have hk1 : k < m - 1 := by rw [← hk]; exact Nat.mod_lt _ (by omega)
      have r1 : ((n : Int)).tmod ((m : Int) - 1) = (k : Int) := by
        rw [Int.tmod_eq_emod_of_nonneg (by omega), show ((m : Int) - 1) = ((m - 1 : Nat) : Int) from by omega, ← hk]
        exact Int.natCast_emod n (m - 1)
      obtain ⟨hok, hx, hfr⟩ := cuts_front hlx HQ.out k (by rw [← HM.out]; omega)
      have HKT : Hid (k = (ts.take k).length) := by rw [Hid, List.length_take, ← HM.out]; omega
      have RK : Hid (Reads (w4.alloc (.cells #[.int .i64 L, .int .i64 C] 48)) (w4.alloc (.cells #[.int .i64 L, .int .i64 C] 48)).heap.size 5 A k (tksCells (ts.take k))) := by
        have := RD.out.upto (k := k) (by omega)
        rw [← tks_take] at this
        exact this
      have JJ := Lib.hid (JN.out (ts.take k) A k c _ B5.out RK.out HKT.out (by omega) hx)
      have hjl : (Lib.join (texts (ts.take k)) [32]).length ≤ 65536 := by
        have h1 := join_sum (texts (ts.take k))
        have h5 : Lib.lens (texts (ts.take k)) + (texts (ts.take k)).length ≤ 2 * s.data.toList.length := Nat.le_trans (texts_mono ts k) (texts_sum hlx)
        have h3 := HSZ.out
        omega
      have HOK := Lib.hid hok
      have HFR := Lib.hid hfr
      have HJL := Lib.hid hjl
      have HMORE := Lib.hid (cuts_more HQ.out)
      clear hp hot hm hcase hb4 TK1 f45 hlx h2 hts hok hx hfr hjl HM HOT RD hk
      have q1 : IntKind.i64.wrap (n : Int) = (n : Int) := IntWalk.i64_in _ ⟨by omega, by omega⟩
      have q2 : IntKind.i64.wrap (k : Int) = (k : Int) := IntWalk.i64_in _ ⟨by omega, by omega⟩
      have q3 : IntKind.i64.wrap ((m : Int) - 1) = (m : Int) - 1 := IntWalk.i64_in _ ⟨by omega, by omega⟩
      go_upto_region 9 with fail
      generalize w4.alloc (.cells #[.int .i64 L, .int .i64 C] 48) = W5 at *
      go_wp2_with fail
      refine JJ.out.mono ?_
      rintro e w6 ⟨rfl, b6⟩
      rw [HOK.out, if_pos rfl, if_pos rfl]
      obtain ⟨J, hJ⟩ : ∃ J, str (Lib.join (texts (ts.take k)) [32]) = J := ⟨_, rfl⟩
      rw [hJ]
      have hJs : J.size ≤ 65536 := by rw [← hJ, str_size]; exact HJL.out
      have hJl : J.data.toList = Lib.join (texts (ts.take k)) [32] := by rw [← hJ, str_list]
      have HJ2 := Lib.hid hJl
      have B6 := Lib.hid (B5.out.trans (b6.mono B5.out.size))
      have P2 := Lib.hid (PA.out J w6 B6.out hJs)
      clear b6 hJ hJl JJ q1 q2 q3 r1
      go_upto_region 10 with fail
      go_wp2_with fail
      refine P2.out.mono ?_
      rintro e w7 ⟨bnm, bse, bsi, bA1, bn1, bc1, bA2, bn2, bc2, bA3, bn3, bc3, bA4, bn4, bc4, bA5, bn5, bc5, bA6, bn6, bc6, bA7, bn7, bc7, bA8, bn8, bc8, Lb, Cb, Eb, rfl, b7, h7⟩
      have B7 := Lib.hid (B6.out.trans (b7.mono B6.out.size))
      have B7a : Hid (Below w.heap.size w ((w7.alloc (.cells #[.string bnm, .int .i64 bse, .slice bA1 bn1 bc1, .slice bA2 bn2 bc2, .slice bA3 bn3 bc3, .slice bA4 bn4 bc4, .slice bA5 bn5 bc5, .slice bA6 bn6 bc6, .string bsi, .slice bA7 bn7 bc7, .slice bA8 bn8 bc8] 54)).alloc (.cells #[.int .i64 Lb, .int .i64 Cb] 27))) := (B7.out.alloc B7.out.size _).alloc (by have := B7.out.size; simp; omega) _
      have H7 := Lib.hid h7
      clear b7 h7 P2
      have heb : Eb = 4 := by
        have h := (out_pc H7.out).1
        rw [HJ2.out, HFR.out] at h
        exact h
      subst heb
      obtain ⟨T, hT⟩ : ∃ T, s ++ ⟨#[10, 101, 110, 100]⟩ = T := ⟨_, rfl⟩
      have hTl : T.data.toList = s.data.toList ++ [10, 101, 110, 100] := by rw [← hT]; simp [ByteArray.data_append]
      have hTs : T.size = s.size + 4 := by
        have h1 : T.size = T.data.toList.length := by simp
        have h3 := HSZ.out
        rw [h1, hTl, List.length_append, h3]
        rfl
      have HTL := Lib.hid hTl
      have P3 := Lib.hid (PA.out T _ B7a.out (by omega))
      have z9 : ¬ (9223372036854775807 < s.size + 4) := by omega
      clear H7 hTl hTs
      go_upto_region 11 with fail
      generalize (w7.alloc (.cells #[.string bnm, .int .i64 bse, .slice bA1 bn1 bc1, .slice bA2 bn2 bc2, .slice bA3 bn3 bc3, .slice bA4 bn4 bc4, .slice bA5 bn5 bc5, .slice bA6 bn6 bc6, .string bsi, .slice bA7 bn7 bc7, .slice bA8 bn8 bc8] 54)).alloc (.cells #[.int .i64 Lb, .int .i64 Cb] 27) = W8 at *
      go_wp2_with (rw [hT])
      refine P3.out.mono ?_
      rintro e w9 ⟨dnm, dse, dsi, dA1, dn1, dc1, dA2, dn2, dc2, dA3, dn3, dc3, dA4, dn4, dc4, dA5, dn5, dc5, dA6, dn6, dc6, dA7, dn7, dc7, dA8, dn8, dc8, Ld, Cd, Ed, rfl, b9, h9⟩
      obtain ⟨L9, hL9, hmo⟩ := HMORE.out
      rw [HTL.out, hmo] at h9
      have hpc := (out_pc h9).2
      obtain ⟨rfl, rfl, rfl, -, -⟩ := h9
      obtain ⟨y9, p9⟩ := two_new w9 54 27 #[.string dnm, .int .i64 dse, .slice dA1 dn1 dc1, .slice dA2 dn2 dc2, .slice dA3 dn3 dc3, .slice dA4 dn4 dc4, .slice dA5 dn5 dc5, .slice dA6 dn6 dc6, .string dsi, .slice dA7 dn7 dc7, .slice dA8 dn8 dc8] #[.int .i64 Ld, .int .i64 1]
      have B9 := Lib.hid (B7a.out.trans (b9.mono B7a.out.size))
      have Ba : Hid (Below w.heap.size w ((w9.alloc (.cells #[.string dnm, .int .i64 dse, .slice dA1 dn1 dc1, .slice dA2 dn2 dc2, .slice dA3 dn3 dc3, .slice dA4 dn4 dc4, .slice dA5 dn5 dc5, .slice dA6 dn6 dc6, .string dsi, .slice dA7 dn7 dc7, .slice dA8 dn8 dc8] 54)).alloc (.cells #[.int .i64 Ld, .int .i64 1] 27))) := (B9.out.alloc B9.out.size _).alloc (by have := B9.out.size; simp; omega) _
      have k9 : Kept (fun _ => False) w9 ((w9.alloc (.cells #[.string dnm, .int .i64 dse, .slice dA1 dn1 dc1, .slice dA2 dn2 dc2, .slice dA3 dn3 dc3, .slice dA4 dn4 dc4, .slice dA5 dn5 dc5, .slice dA6 dn6 dc6, .string dsi, .slice dA7 dn7 dc7, .slice dA8 dn8 dc8] 54)).alloc (.cells #[.int .i64 Ld, .int .i64 1] 27)) := ((Kept.refl (fun _ => False) w9).alloc _).alloc _
      have PCd := Lib.hid (PC_kept _ (fun _ => True) _ w9 _ _ _ k9 (fun _ _ _ h => h) (fun _ _ _ => trivial) hpc)
      have Y9 := Lib.hid y9
      have Q9 := Lib.hid p9
      clear b9 hpc y9 p9 k9 hmo P3
      go_upto_region 12 with fail
      generalize (w9.alloc (.cells #[.string dnm, .int .i64 dse, .slice dA1 dn1 dc1, .slice dA2 dn2 dc2, .slice dA3 dn3 dc3, .slice dA4 dn4 dc4, .slice dA5 dn5 dc5, .slice dA6 dn6 dc6, .string dsi, .slice dA7 dn7 dc7, .slice dA8 dn8 dc8] 54)).alloc (.cells #[.int .i64 Ld, .int .i64 1] 27) = Wa at *
      have gL : decide ((0 : Int) < Ld) = true := by simpa using hL9
      have sc0 : Wa.cell? ⟨w9.heap.size, 0, none⟩ = some (.string dnm) := Y9.out.cell 0
      have sc1 : Wa.cell? ⟨w9.heap.size, 1, none⟩ = some (.int .i64 dse) := Y9.out.cell 1
      have sc2 : Wa.cell? ⟨w9.heap.size, 2, none⟩ = some (.slice dA1 dn1 dc1) := Y9.out.cell 2
      have sc3 : Wa.cell? ⟨w9.heap.size, 3, none⟩ = some (.slice dA2 dn2 dc2) := Y9.out.cell 3
      have sc4 : Wa.cell? ⟨w9.heap.size, 4, none⟩ = some (.slice dA3 dn3 dc3) := Y9.out.cell 4
      have sc5 : Wa.cell? ⟨w9.heap.size, 5, none⟩ = some (.slice dA4 dn4 dc4) := Y9.out.cell 5
      have sc6 : Wa.cell? ⟨w9.heap.size, 6, none⟩ = some (.slice dA5 dn5 dc5) := Y9.out.cell 6
      have sc7 : Wa.cell? ⟨w9.heap.size, 7, none⟩ = some (.slice dA6 dn6 dc6) := Y9.out.cell 7
      have sc8 : Wa.cell? ⟨w9.heap.size, 8, none⟩ = some (.string dsi) := Y9.out.cell 8
      have sc9 : Wa.cell? ⟨w9.heap.size, 9, none⟩ = some (.slice dA7 dn7 dc7) := Y9.out.cell 9
      have sc10 : Wa.cell? ⟨w9.heap.size, 10, none⟩ = some (.slice dA8 dn8 dc8) := Y9.out.cell 10
      have pc0 : Wa.cell? ⟨w9.heap.size + 1, 0, none⟩ = some (.int .i64 Ld) := Q9.out.cell 0
      have pc1 : Wa.cell? ⟨w9.heap.size + 1, 1, none⟩ = some (.int .i64 1) := Q9.out.cell 1
      have CT := Lib.hid (To_any (fun _ => True) dnm dse dsi dA1 dn1 dc1 dA2 dn2 dc2 dA3 dn3 dc3 dA4 dn4 dc4 dA5 dn5 dc5 dA6 dn6 dc6 dA7 dn7 dc7 dA8 dn8 dc8 zeroPg Wa PCd.out)
      go_wp2_with fail
      refine CT.out.mono ?_
      rintro e wb ⟨xnm, xse, xsi, xA1, xn1, xc1, xA2, xn2, xc2, xA3, xn3, xc3, xA4, xn4, xc4, xA5, xn5, xc5, xA6, xn6, xc6, xA7, xn7, xc7, xA8, xn8, xc8, rfl, bb, hb⟩
      have Bb := Lib.hid (Ba.out.trans (bb.mono Ba.out.size))
      have SM := Lib.hid (same_prog _ _ _ _ _ _ _ _ _ _ _ _ _ _ _ _ _ _ _ _ _ _ _ _ _ _ _ _ _ _ _ _ _ _ _ _ _ _ _ _ _ _ _ _ _ _ _ _ _ _ _ _ _ _ _ _ zeroPg wb hb (zero_pd wb))
      clear bb hb CT sc0 sc1 sc2 sc3 sc4 sc5 sc6 sc7 sc8 sc9 sc10
      go_wp2_with fail
      refine SM.out.mono ?_
      rintro e wc ⟨rfl, bc⟩
      have Bc := Lib.hid (Bb.out.trans (bc.mono Bb.out.size))
      have IN : Hid (Calls Tryd.prog 20 #[.string ⟨#[120]⟩] wc (Tells wc true)) := by
        have := refIsName_any ⟨#[120]⟩ wc (by decide)
        rwa [show nameS (ByteArray.mk #[120]).data.toList = true from by decide] at this
      clear bc SM
      go_wp2_with fail
      refine IN.out.mono ?_
      rintro e wd ⟨rfl, bd⟩
      go_wp2_with fail
      go_ret
      exact ⟨rfl, Bc.out.trans (bd.mono Bc.out.size)⟩
end Go.Proofs.YtdmlnoeneoomfaaDoor
