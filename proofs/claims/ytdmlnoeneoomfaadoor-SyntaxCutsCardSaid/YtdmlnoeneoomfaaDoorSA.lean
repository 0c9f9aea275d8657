
/-
  The parser of programs in memory: how its steps are told; single tokens. The parser of programs: a number with a sign; which token comes next. The parser of programs: is the next token the first one of a statement? The parser of programs in memory: rows, statements, variables; each step in one form. No program is named here but for its types. The parser's lists: as many as there are. (Printed by wip/tools/gens20.py.)
-/
import Derived.Test.YtdmlnoeneoomfaaDoorS15
import Derived.Test.YtdmlnoeneoomfaaDoorS8
import Derived.Test.YtdmlnoeneoomfaaDoorG1
import Derived.Test.YtdmlnoeneoomfaaDoorStep
namespace Go.Proofs.YtdmlnoeneoomfaaDoor
open Go.RowKit

/-- Where the parser stands behind a step that gives p. -/
def PsAt {α : Type} (ts : List Tk) (i : Nat) (er : Int) (p : PS α) (Q : α → Prop) : Prop := match p with
  | .ok a r => r = ts.drop i ∧ er = 0 ∧ Q a
  | .bad r e => r = ts.drop i ∧ e = er ∧ er ≠ 0
/-- A step from where the parser stands: with an error nothing is read. -/
def stP {α : Type} (f : List Tk → PS α) (ts : List Tk) (i : Nat) (er : Int) : PS α := if er = 0 then f (ts.drop i) else .bad (ts.drop i) er
theorem PS.bind_assoc {α β γ : Type} (p : PS α) (f : α → List Tk → PS β) (k : β → List Tk → PS γ) : (p.bind f).bind k = p.bind fun a r => (f a r).bind k := by cases p <;> rfl
theorem PS.ok_bind {α β : Type} (a : α) (r : List Tk) (f : α → List Tk → PS β) : (PS.ok a r).bind f = f a r := rfl
theorem PsAt.mono {α : Type} {ts : List Tk} {i : Nat} {er : Int} {p : PS α} {Q Q' : α → Prop} (h : PsAt ts i er p Q) (hq : ∀ a, Q a → Q' a) : PsAt ts i er p Q' := by
  cases p with
  | ok a r => exact ⟨h.1, h.2.1, hq a h.2.2⟩
  | bad r e => exact h
/-- One step behind another. -/
theorem PsAt.then_ {α β : Type} {ts : List Tk} {i j : Nat} {er er' : Int} {p : PS α} {f : List Tk → PS β} {Q : α → Prop} {Q' : β → Prop} (h : PsAt ts i er p Q) (h2 : PsAt ts j er' (stP f ts i er) Q') :
    PsAt ts j er' (p.bind fun a r => (f r).bind fun b r => .ok (a, b) r) (fun ab => Q ab.1 ∧ Q' ab.2) := by
  cases p with
  | ok a r =>
    obtain ⟨rfl, rfl, hq⟩ := h
    unfold stP at h2
    rw [if_pos rfl] at h2
    show PsAt ts j er' ((f (ts.drop i)).bind fun b r => .ok (a, b) r) _
    cases hf : f (ts.drop i) with
    | ok b r =>
      rw [hf] at h2
      exact ⟨h2.1, h2.2.1, hq, h2.2.2⟩
    | bad r e =>
      rw [hf] at h2
      exact h2
  | bad r e =>
    obtain ⟨rfl, rfl, hne⟩ := h
    unfold stP at h2
    rw [if_neg hne] at h2
    exact h2
theorem PsAt.map {α β : Type} {ts : List Tk} {i : Nat} {er : Int} {p : PS α} {Q : α → Prop} {Q' : β → Prop} (k : α → β) (h : PsAt ts i er p Q) (hq : ∀ a, Q a → Q' (k a)) : PsAt ts i er (p.bind fun a r => .ok (k a) r) Q' := by
  cases p with
  | ok a r => exact ⟨h.1, h.2.1, hq a h.2.2⟩
  | bad r e => exact h
theorem PsAt.st {α : Type} {ts : List Tk} {i : Nat} {er : Int} {a : α} {Q : α → Prop} (hq : Q a) : PsAt ts i er (stP (fun r => .ok a r) ts i er) Q := by
  unfold stP
  split
  · rename_i h
    exact ⟨rfl, h, hq⟩
  · rename_i h
    exact ⟨rfl, rfl, h⟩
/-- A step of the parser: what it gives, and where it stands then. -/
def StepTo {α : Type} (w : World) (g c : Nat) (A : Option Addr) (m : Nat → Nat) (ts : List Tk) (dp : Int) (p : PS α) (R : World → α → Value → Prop) (Sh : World → Value → Prop) (e : Ending) (w' : World) : Prop :=
  ∃ v, e = .returned v ∧ Kept (fun z => z = g) w w' ∧ Sh w' v ∧ ∃ (i : Nat) (er : Int), Par w' g A c m ts i dp er ∧ PsAt ts i er p (fun a => R w' a v)
theorem must_ps {ts : List Tk} {i : Nat} {er : Int} {t : Tk} (ht : ts[i]? = some t) (x : List UInt8) : PsAt ts (if hasB t er x then i + 1 else i) (mustE t er x) (stP (mustP x) ts i er) (fun _ => True) := by
  by_cases he : er = 0
  · subst he
    have e1 : hasB t 0 x = hasT x (ts.drop i) := by rw [drop_tok ht]; exact hasB_T
    unfold stP mustP mustE
    rw [if_pos rfl, e1]
    cases hasT x (ts.drop i) with
    | true => exact ⟨by simp, by simp, trivial⟩
    | false =>
      have e2 : wrongE t 0 = wrongT (ts.drop i) := by rw [drop_tok ht]; rfl
      exact ⟨by simp, by simp [e2], by simp [e2, wrongT_ne]⟩
  · have e0 : hasB t er x = false := by simp [hasB, he]
    unfold stP mustE
    rw [if_neg he, e0]
    exact ⟨rfl, by simp [wrongE, he], by simp [wrongE, he]⟩
theorem take_ps {ts : List Tk} {i : Nat} {er : Int} {t : Tk} (ht : ts[i]? = some t) (k : Int) : PsAt ts (if nextB t er k then i + 1 else i) (if nextB t er k then er else wrongE t er) (stP (takeP k) ts i er) (fun a => a = if nextB t er k then t else noTk) := by
  by_cases he : er = 0
  · subst he
    unfold stP
    rw [if_pos rfl, drop_tok ht]
    unfold takeP
    by_cases hk : t.kind = k
    · have : nextB t 0 k = true := by simp [nextB, hk]
      rw [this]
      simp only [hk, if_pos]
      exact ⟨rfl, rfl, rfl⟩
    · have : nextB t 0 k = false := by simp [nextB, hk]
      rw [this]
      simp only [hk, if_false, Bool.false_eq_true]
      exact ⟨(drop_tok ht).symm, rfl, by rw [wrongE_T (r := [])]; exact wrongT_ne _⟩
  · have e0 : nextB t er k = false := by simp [nextB, he]
    unfold stP
    rw [if_neg he, e0]
    exact ⟨rfl, by simp [wrongE, he], by simp [wrongE, he]⟩
theorem name_stP (ts : List Tk) (i : Nat) (er : Int) : stP nameP ts i er = (stP (takeP 1) ts i er).bind fun t r => .ok t.text r := by
  unfold stP
  split <;> rfl
theorem num_stP (ts : List Tk) (i : Nat) (er : Int) : stP numP ts i er = (stP (takeP 2) ts i er).bind fun t r => .ok t.n r := by
  unfold stP
  split <;> rfl
set_option maxRecDepth 100000 in
theorem run_fieldTk1 (w : World) (t : Tk) : Sem.run Tryd.prog (Instr.field 87 (tkVal t) 1) w = .ok (.string (str t.text)) w := by rfl
set_option maxRecDepth 100000 in
theorem run_fieldTk2 (w : World) (t : Tk) : Sem.run Tryd.prog (Instr.field 87 (tkVal t) 2) w = .ok (.int .i64 t.n) w := by rfl
def IsS (_ : World) (s : List UInt8) (v : Value) : Prop := v = .string (str s)
def ShS (_ : World) (v : Value) : Prop := ∃ s : ByteArray, v = .string s
def IsN (_ : World) (n : Int) (v : Value) : Prop := v = .int .i64 n
def ShN (_ : World) (v : Value) : Prop := ∃ n : Int, v = .int .i64 n
set_option maxHeartbeats 1000000 in
set_option maxRecDepth 100000 in
theorem pname_any (g c : Nat) (A : Option Addr) (m : Nat → Nat) (ts : List Tk) (i : Nat) (dp er : Int) (w : World) (h : Par w g A c m ts i dp er) :
    Calls Tryd.prog 57 #[.pointer (some ⟨g, 0, none⟩)] w (StepTo w g c A m ts dp (stP nameP ts i er) IsS ShS) := by
  obtain ⟨t, ht⟩ := ParS.at_some h.at_
  have TK := Lib.hid (take_any g c A m ts i dp er 1 w h t ht (by decide))
  have PT := Lib.hid (take_ps (er := er) ht 1)
  rw [name_stP]
  generalize (if nextB t er 1 then t else noTk) = tk at *
  clear h ht
  go_enter Tryd.func57, Tryd.ntmps57
  go_wp2_with fail
  refine TK.out.mono ?_
  rintro e w1 ⟨rfl, p1, k1⟩
  go_wp2_with fail
  rw [run_fieldTk1]
  go_wp2_with fail
  go_ret
  exact ⟨_, rfl, k1, ⟨_, rfl⟩, _, _, p1, PT.out.map Tk.text (fun a ha => by rw [ha]; rfl)⟩
set_option maxHeartbeats 1000000 in
set_option maxRecDepth 100000 in
theorem pnumber_any (g c : Nat) (A : Option Addr) (m : Nat → Nat) (ts : List Tk) (i : Nat) (dp er : Int) (w : World) (h : Par w g A c m ts i dp er) :
    Calls Tryd.prog 58 #[.pointer (some ⟨g, 0, none⟩)] w (StepTo w g c A m ts dp (stP numP ts i er) IsN ShN) := by
  obtain ⟨t, ht⟩ := ParS.at_some h.at_
  have TK := Lib.hid (take_any g c A m ts i dp er 2 w h t ht (by decide))
  have PT := Lib.hid (take_ps (er := er) ht 2)
  rw [num_stP]
  generalize (if nextB t er 2 then t else noTk) = tk at *
  clear h ht
  go_enter Tryd.func58, Tryd.ntmps58
  go_wp2_with fail
  refine TK.out.mono ?_
  rintro e w1 ⟨rfl, p1, k1⟩
  go_wp2_with fail
  rw [run_fieldTk2]
  go_wp2_with fail
  go_ret
  exact ⟨_, rfl, k1, ⟨_, rfl⟩, _, _, p1, PT.out.map Tk.n (fun a ha => by rw [ha]; rfl)⟩
end Go.Proofs.YtdmlnoeneoomfaaDoor
namespace Go.Proofs.YtdmlnoeneoomfaaDoor
open Go.RowKit

theorem stP_bind {α β : Type} (f : List Tk → PS α) (k : α → List Tk → PS β) (ts : List Tk) (i : Nat) (er : Int) : stP (fun r => (f r).bind k) ts i er = (stP f ts i er).bind k := by
  unfold stP
  split <;> rfl
theorem stP_skip {α : Type} {ts : List Tk} {i : Nat} {er : Int} {t : Tk} (ht : ts[i]? = some t) (x : List UInt8) (f a b : List Tk → PS α) (hf : ∀ r, f r = if hasT x r then a r.tail else b r) :
    (hasB t er x = true → er = 0 ∧ stP f ts i er = stP a ts (i + 1) er) ∧ (hasB t er x = false → stP f ts i er = stP b ts i er) := by
  by_cases he : er = 0
  · subst he
    have e1 : hasB t 0 x = hasT x (ts.drop i) := by rw [drop_tok ht]; exact hasB_T
    unfold stP
    rw [if_pos rfl, if_pos rfl, if_pos rfl, hf, e1]
    refine ⟨fun h => ⟨rfl, ?_⟩, fun h => ?_⟩
    · rw [if_pos h, List.tail_drop]
    · rw [if_neg (by rw [h]; decide)]
  · have e0 : hasB t er x = false := by simp [hasB, he]
    unfold stP
    rw [if_neg he, if_neg he, if_neg he, e0]
    exact ⟨fun h => absurd h (by decide), fun _ => rfl⟩
/-- A question about the tokens that come next. -/
def stB (f : List Tk → Bool) (ts : List Tk) (i : Nat) (er : Int) : Bool := (er == 0) && f (ts.drop i)
theorem nextB_st {ts : List Tk} {i : Nat} {er : Int} {t : Tk} (ht : ts[i]? = some t) (k : Int) : nextB t er k = stB (kindT k) ts i er := by
  unfold nextB stB
  rw [drop_tok ht]
  congr 1
theorem hasB_st {ts : List Tk} {i : Nat} {er : Int} {t : Tk} (ht : ts[i]? = some t) (x : List UInt8) : hasB t er x = stB (hasT x) ts i er := by
  unfold stB
  by_cases he : er = 0
  · subst he
    rw [drop_tok ht, hasB_T (r := ts.drop (i + 1))]
    rfl
  · have he' : (er == 0) = false := by simp [he]
    simp [hasB, he']
set_option maxHeartbeats 1000000 in
set_option maxRecDepth 100000 in
theorem signed_any (g c : Nat) (A : Option Addr) (m : Nat → Nat) (ts : List Tk) (i : Nat) (dp er : Int) (w : World) (h : Par w g A c m ts i dp er) :
    Calls Tryd.prog 77 #[.pointer (some ⟨g, 0, none⟩)] w (StepTo w g c A m ts dp (stP signedP ts i er) IsN ShN) := by
  obtain ⟨t, ht⟩ := ParS.at_some h.at_
  have SK := Lib.hid (skip_any g c A m ts i dp er [45] w h t ht)
  have PT := Lib.hid (stP_skip (er := er) ht [45] signedP (fun r => (numP r).bind fun n r => .ok (IntKind.i64.wrap (-n)) r) numP (fun r => rfl))
  have NU := Lib.hid (fun w' i' (h' : Par w' g A c m ts i' dp er) => pnumber_any g c A m ts i' dp er w' h')
  generalize hasB t er [45] = b at *
  clear h ht
  cases b
  · go_enter Tryd.func77, Tryd.ntmps77
    go_wp2_with fail
    refine SK.out.mono ?_
    rintro e w1 ⟨rfl, p1, k1⟩
    go_wp2_with fail
    refine (NU.out w1 i p1).mono ?_
    rintro e w2 ⟨v, rfl, k2, ⟨n, rfl⟩, j, er2, p2, ps⟩
    go_wp2_with fail
    go_ret
    exact ⟨_, rfl, k1.then_ k2 (fun _ _ e => e), ⟨_, rfl⟩, _, _, p2, by rw [PT.out.2 trivial]; exact ps⟩
  · go_enter Tryd.func77, Tryd.ntmps77
    go_wp2_with fail
    refine SK.out.mono ?_
    rintro e w1 ⟨rfl, p1, k1⟩
    go_wp2_with fail
    refine (NU.out w1 (i + 1) p1).mono ?_
    rintro e w2 ⟨v, rfl, k2, ⟨n, rfl⟩, j, er2, p2, ps⟩
    go_wp2_with fail
    go_ret
    refine ⟨_, rfl, k1.then_ k2 (fun _ _ e => e), ⟨_, rfl⟩, _, _, p2, ?_⟩
    rw [(PT.out.1 trivial).2, stP_bind]
    refine ps.map (fun n => IntKind.i64.wrap (-n)) fun a ha => ?_
    injection ha with _ ha
    rw [← ha]
    show Value.int .i64 (wrap64 (-n)) = Value.int .i64 (IntKind.i64.wrap (-n))
    rw [IntWalk.i64_left]
set_option maxHeartbeats 1000000 in
set_option maxRecDepth 100000 in
theorem isNumber_any (g c : Nat) (A : Option Addr) (m : Nat → Nat) (ts : List Tk) (i : Nat) (dp er : Int) (w : World) (h : Par w g A c m ts i dp er) :
    Calls Tryd.prog 60 #[.pointer (some ⟨g, 0, none⟩)] w (Still w (.bool (stB (kindT 2) ts i er))) := by
  obtain ⟨t, ht⟩ := ParS.at_some h.at_
  have HX := Lib.hid (next_any g c A m ts i dp er 2 w h t ht)
  rw [← nextB_st ht]
  clear h ht
  go_enter Tryd.func60, Tryd.ntmps60
  go_wp2_with fail
  refine HX.out.mono ?_
  rintro e w1 ⟨rfl, q, rfl⟩
  go_wp2_with fail
  go_ret
  exact ⟨rfl, _, rfl⟩
set_option maxHeartbeats 1000000 in
set_option maxRecDepth 100000 in
theorem isVar_any (g c : Nat) (A : Option Addr) (m : Nat → Nat) (ts : List Tk) (i : Nat) (dp er : Int) (w : World) (h : Par w g A c m ts i dp er) :
    Calls Tryd.prog 62 #[.pointer (some ⟨g, 0, none⟩)] w (Still w (.bool (stB (hasT [118, 97, 114]) ts i er))) := by
  obtain ⟨t, ht⟩ := ParS.at_some h.at_
  have HX : Hid (Calls Tryd.prog 76 #[.pointer (some ⟨g, 0, none⟩), .string ⟨#[118, 97, 114]⟩] w (Still w (.bool (hasB t er [118, 97, 114])))) := has_any g c A m ts i dp er [118, 97, 114] w h t ht
  rw [← hasB_st ht]
  clear h ht
  go_enter Tryd.func62, Tryd.ntmps62
  go_wp2_with fail
  refine HX.out.mono ?_
  rintro e w1 ⟨rfl, q, rfl⟩
  go_wp2_with fail
  go_ret
  exact ⟨rfl, _, rfl⟩
set_option maxHeartbeats 1000000 in
set_option maxRecDepth 100000 in
theorem isComma_any (g c : Nat) (A : Option Addr) (m : Nat → Nat) (ts : List Tk) (i : Nat) (dp er : Int) (w : World) (h : Par w g A c m ts i dp er) :
    Calls Tryd.prog 82 #[.pointer (some ⟨g, 0, none⟩)] w (Still w (.bool (stB (hasT [44]) ts i er))) := by
  obtain ⟨t, ht⟩ := ParS.at_some h.at_
  have HX : Hid (Calls Tryd.prog 76 #[.pointer (some ⟨g, 0, none⟩), .string ⟨#[44]⟩] w (Still w (.bool (hasB t er [44])))) := has_any g c A m ts i dp er [44] w h t ht
  rw [← hasB_st ht]
  clear h ht
  go_enter Tryd.func82, Tryd.ntmps82
  go_wp2_with fail
  refine HX.out.mono ?_
  rintro e w1 ⟨rfl, q, rfl⟩
  go_wp2_with fail
  go_ret
  exact ⟨rfl, _, rfl⟩
end Go.Proofs.YtdmlnoeneoomfaaDoor
namespace Go.Proofs.YtdmlnoeneoomfaaDoor
open Go.RowKit

theorem str_eqL (a b : List UInt8) : ((str a).toList == b) = decide (a = b) := by
  rw [ByteArray.toList_eq, str_list]
  by_cases h : a = b <;> simp [h]
theorem beginsT_B {ts : List Tk} {i : Nat} {er : Int} {t : Tk} (ht : ts[i]? = some t) : stB beginsT ts i er = (nextB t er 1 || (nextB t er 3 && (decide (t.text = [105, 102]) || decide (t.text = [102, 111, 114]) || decide (t.text = [114, 101, 102, 117, 115, 101]) || decide (t.text = [114, 111, 108, 108]) || decide (t.text = [115, 101, 97, 116]) || decide (t.text = [111, 118, 101, 114]) || decide (t.text = [112, 97, 121]) || decide (t.text = [114, 101, 115, 116])))) := by
  unfold stB nextB
  rw [drop_tok ht]
  by_cases he : er = 0
  · subst he
    simp only [beginsT, beginW, List.mem_cons, List.not_mem_nil, or_false, Bool.decide_or, Bool.or_assoc, beq_self_eq_true, Bool.true_and]
    rfl
  · have he' : (er == 0) = false := by simp [he]
    simp only [he', Bool.false_and, Bool.false_or]
theorem eight : ∀ d0 d1 d2 d3 d4 d5 d6 d7 : Bool, (d0 = true) ∨ (d0 = false ∧ d1 = true) ∨ (d0 = false ∧ d1 = false ∧ d2 = true) ∨ (d0 = false ∧ d1 = false ∧ d2 = false ∧ d3 = true) ∨ (d0 = false ∧ d1 = false ∧ d2 = false ∧ d3 = false ∧ d4 = true) ∨ (d0 = false ∧ d1 = false ∧ d2 = false ∧ d3 = false ∧ d4 = false ∧ d5 = true) ∨ (d0 = false ∧ d1 = false ∧ d2 = false ∧ d3 = false ∧ d4 = false ∧ d5 = false ∧ d6 = true) ∨ (d0 = false ∧ d1 = false ∧ d2 = false ∧ d3 = false ∧ d4 = false ∧ d5 = false ∧ d6 = false ∧ d7 = true) ∨ (d0 = false ∧ d1 = false ∧ d2 = false ∧ d3 = false ∧ d4 = false ∧ d5 = false ∧ d6 = false ∧ d7 = false) := by
  intro d0 d1 d2 d3 d4 d5 d6 d7
  cases d0 <;> simp
  cases d1 <;> simp
  cases d2 <;> simp
  cases d3 <;> simp
  cases d4 <;> simp
  cases d5 <;> simp
  cases d6 <;> simp
set_option maxHeartbeats 2000000 in
set_option maxRecDepth 100000 in
theorem begins_any (g c : Nat) (A : Option Addr) (m : Nat → Nat) (ts : List Tk) (i : Nat) (dp er : Int) (w : World) (h : Par w g A c m ts i dp er) :
    Calls Tryd.prog 79 #[.pointer (some ⟨g, 0, none⟩)] w (Still w (.bool (stB beginsT ts i er))) := by
  obtain ⟨t, ht⟩ := ParS.at_some h.at_
  have HB := Lib.hid (beginsT_B (er := er) ht)
  have N1 := Lib.hid (next_any g c A m ts i dp er 1 w h t ht)
  have N3 := Lib.hid (fun q => Still.in_ (next_any g c A m ts i dp er 3 (w.drewN q) (h.drewN q) t ht))
  obtain ⟨b, o, rfl, hb, hbg, q0, q1, q2, q3, q4⟩ := h.st.tok ht
  have hi := h.at_
  obtain ⟨n, hn⟩ : ∃ n, ts.length = n := ⟨_, rfl⟩
  have B := h.blk
  rw [hn] at B hi
  have c0 : w.cell? ⟨g, 0, none⟩ = some (.slice (some ⟨b, o, none⟩) n c) := B.cell 0
  have c1 : w.cell? ⟨g, 1, none⟩ = some (.int .i64 i) := B.cell 1
  have g1 : (0 : Int) ≤ (i : Int) := by omega
  have g2 : (i : Int) < (n : Int) := by omega
  have e0 : ((str t.text).toList == [105, 102]) = decide (t.text = [105, 102]) := str_eqL _ _
  have e1 : ((str t.text).toList == [102, 111, 114]) = decide (t.text = [102, 111, 114]) := str_eqL _ _
  have e2 : ((str t.text).toList == [114, 101, 102, 117, 115, 101]) = decide (t.text = [114, 101, 102, 117, 115, 101]) := str_eqL _ _
  have e3 : ((str t.text).toList == [114, 111, 108, 108]) = decide (t.text = [114, 111, 108, 108]) := str_eqL _ _
  have e4 : ((str t.text).toList == [115, 101, 97, 116]) = decide (t.text = [115, 101, 97, 116]) := str_eqL _ _
  have e5 : ((str t.text).toList == [111, 118, 101, 114]) = decide (t.text = [111, 118, 101, 114]) := str_eqL _ _
  have e6 : ((str t.text).toList == [112, 97, 121]) = decide (t.text = [112, 97, 121]) := str_eqL _ _
  have e7 : ((str t.text).toList == [114, 101, 115, 116]) = decide (t.text = [114, 101, 115, 116]) := str_eqL _ _
  generalize stB beginsT ts i er = res at *
  generalize nextB t er 1 = b1 at *
  generalize nextB t er 3 = b3 at *
  generalize decide (t.text = [105, 102]) = d0 at *
  generalize decide (t.text = [102, 111, 114]) = d1 at *
  generalize decide (t.text = [114, 101, 102, 117, 115, 101]) = d2 at *
  generalize decide (t.text = [114, 111, 108, 108]) = d3 at *
  generalize decide (t.text = [115, 101, 97, 116]) = d4 at *
  generalize decide (t.text = [111, 118, 101, 114]) = d5 at *
  generalize decide (t.text = [112, 97, 121]) = d6 at *
  generalize decide (t.text = [114, 101, 115, 116]) = d7 at *
  clear q0 q2 q3 q4 B h hn ht
  cases b1
  · cases b3
    · have HR : Hid (res = false) := by rw [Hid, HB.out]; rfl
      clear HB e0 e1 e2 e3 e4 e5 e6 e7
      go_enter Tryd.func79, Tryd.ntmps79
      go_wp2_with fail
      refine N1.out.mono ?_
      rintro e w1 ⟨rfl, q1, rfl⟩
      go_wp2_with fail
      refine (N3.out q1).mono ?_
      rintro e w1 ⟨rfl, q2, rfl⟩
      go_wp2_with fail
      go_ret
      exact ⟨by rw [HR.out]; rfl, _, rfl⟩
    · rcases eight d0 d1 d2 d3 d4 d5 d6 d7 with rfl | ⟨rfl, rfl⟩ | ⟨rfl, rfl, rfl⟩ | ⟨rfl, rfl, rfl, rfl⟩ | ⟨rfl, rfl, rfl, rfl, rfl⟩ | ⟨rfl, rfl, rfl, rfl, rfl, rfl⟩ | ⟨rfl, rfl, rfl, rfl, rfl, rfl, rfl⟩ | ⟨rfl, rfl, rfl, rfl, rfl, rfl, rfl, rfl⟩ | ⟨rfl, rfl, rfl, rfl, rfl, rfl, rfl, rfl⟩
      · have HR : Hid (res = true) := by rw [Hid, HB.out]; rfl
        clear HB
        go_enter Tryd.func79, Tryd.ntmps79
        go_wp2_with fail
        refine N1.out.mono ?_
        rintro e w1 ⟨rfl, q1, rfl⟩
        go_wp2_with fail
        refine (N3.out q1).mono ?_
        rintro e w1 ⟨rfl, q2, rfl⟩
        go_upto_region 5 with fail
        go_quiet (fail)
        go_wp2_with fail
        go_ret
        exact ⟨by rw [HR.out]; rfl, _, rfl⟩
      · have HR : Hid (res = true) := by rw [Hid, HB.out]; rfl
        clear HB
        go_enter Tryd.func79, Tryd.ntmps79
        go_wp2_with fail
        refine N1.out.mono ?_
        rintro e w1 ⟨rfl, q1, rfl⟩
        go_wp2_with fail
        refine (N3.out q1).mono ?_
        rintro e w1 ⟨rfl, q2, rfl⟩
        go_upto_region 5 with fail
        go_quiet (fail)
        go_wp2_with fail
        go_ret
        exact ⟨by rw [HR.out]; rfl, _, rfl⟩
      · have HR : Hid (res = true) := by rw [Hid, HB.out]; rfl
        clear HB
        go_enter Tryd.func79, Tryd.ntmps79
        go_wp2_with fail
        refine N1.out.mono ?_
        rintro e w1 ⟨rfl, q1, rfl⟩
        go_wp2_with fail
        refine (N3.out q1).mono ?_
        rintro e w1 ⟨rfl, q2, rfl⟩
        go_upto_region 5 with fail
        go_quiet (fail)
        go_wp2_with fail
        go_ret
        exact ⟨by rw [HR.out]; rfl, _, rfl⟩
      · have HR : Hid (res = true) := by rw [Hid, HB.out]; rfl
        clear HB
        go_enter Tryd.func79, Tryd.ntmps79
        go_wp2_with fail
        refine N1.out.mono ?_
        rintro e w1 ⟨rfl, q1, rfl⟩
        go_wp2_with fail
        refine (N3.out q1).mono ?_
        rintro e w1 ⟨rfl, q2, rfl⟩
        go_upto_region 5 with fail
        go_quiet (fail)
        go_wp2_with fail
        go_ret
        exact ⟨by rw [HR.out]; rfl, _, rfl⟩
      · have HR : Hid (res = true) := by rw [Hid, HB.out]; rfl
        clear HB
        go_enter Tryd.func79, Tryd.ntmps79
        go_wp2_with fail
        refine N1.out.mono ?_
        rintro e w1 ⟨rfl, q1, rfl⟩
        go_wp2_with fail
        refine (N3.out q1).mono ?_
        rintro e w1 ⟨rfl, q2, rfl⟩
        go_upto_region 5 with fail
        go_quiet (fail)
        go_wp2_with fail
        go_ret
        exact ⟨by rw [HR.out]; rfl, _, rfl⟩
      · have HR : Hid (res = true) := by rw [Hid, HB.out]; rfl
        clear HB
        go_enter Tryd.func79, Tryd.ntmps79
        go_wp2_with fail
        refine N1.out.mono ?_
        rintro e w1 ⟨rfl, q1, rfl⟩
        go_wp2_with fail
        refine (N3.out q1).mono ?_
        rintro e w1 ⟨rfl, q2, rfl⟩
        go_upto_region 5 with fail
        go_quiet (fail)
        go_wp2_with fail
        go_ret
        exact ⟨by rw [HR.out]; rfl, _, rfl⟩
      · have HR : Hid (res = true) := by rw [Hid, HB.out]; rfl
        clear HB
        go_enter Tryd.func79, Tryd.ntmps79
        go_wp2_with fail
        refine N1.out.mono ?_
        rintro e w1 ⟨rfl, q1, rfl⟩
        go_wp2_with fail
        refine (N3.out q1).mono ?_
        rintro e w1 ⟨rfl, q2, rfl⟩
        go_upto_region 5 with fail
        go_quiet (fail)
        go_wp2_with fail
        go_ret
        exact ⟨by rw [HR.out]; rfl, _, rfl⟩
      · have HR : Hid (res = true) := by rw [Hid, HB.out]; rfl
        clear HB
        go_enter Tryd.func79, Tryd.ntmps79
        go_wp2_with fail
        refine N1.out.mono ?_
        rintro e w1 ⟨rfl, q1, rfl⟩
        go_wp2_with fail
        refine (N3.out q1).mono ?_
        rintro e w1 ⟨rfl, q2, rfl⟩
        go_upto_region 5 with fail
        go_quiet (fail)
        go_wp2_with fail
        go_ret
        exact ⟨by rw [HR.out]; rfl, _, rfl⟩
      · have HR : Hid (res = false) := by rw [Hid, HB.out]; rfl
        clear HB
        go_enter Tryd.func79, Tryd.ntmps79
        go_wp2_with fail
        refine N1.out.mono ?_
        rintro e w1 ⟨rfl, q1, rfl⟩
        go_wp2_with fail
        refine (N3.out q1).mono ?_
        rintro e w1 ⟨rfl, q2, rfl⟩
        go_upto_region 5 with fail
        go_quiet (fail)
        go_wp2_with fail
        go_ret
        exact ⟨by rw [HR.out]; rfl, _, rfl⟩
  · have HR : Hid (res = true) := by rw [Hid, HB.out]; rfl
    clear HB e0 e1 e2 e3 e4 e5 e6 e7
    go_enter Tryd.func79, Tryd.ntmps79
    go_wp2_with fail
    refine N1.out.mono ?_
    rintro e w1 ⟨rfl, q1, rfl⟩
    go_wp2_with fail
    go_ret
    exact ⟨by rw [HR.out]; rfl, _, rfl⟩
end Go.Proofs.YtdmlnoeneoomfaaDoor
namespace Go.Proofs.YtdmlnoeneoomfaaDoor
open Go.RowKit

/-- How the cells of an element tell of it; its parts lie in blocks D. -/
abbrev Cel (α : Type) := (Nat → Prop) → World → List Value → α → Prop
def QKept {α : Type} (Q : Cel α) : Prop := ∀ (D E S : Nat → Prop) (w w' : World) (cs : List Value) (a : α), Kept S w w' → (∀ k, k < w.heap.size → D k → ¬ S k) → (∀ k, k < w.heap.size → D k → E k) → Q D w cs a → Q E w' cs a
def QI : Cel Int := fun _ _ cs n => cs = [.int .i64 n]
def vaCells (v : Va) : List Value := [.string (str v.nm), .int .i64 v.size, .int .i64 v.lo, .int .i64 v.hi]
def QV : Cel Va := fun _ _ cs v => cs = vaCells v
def QE : Cel Ex := fun D w cs x => TE D w x cs
/-- A statement's seven cells. -/
def SE (D : Nat → Prop) (w : World) : Nat → List Value → St → Prop
  | 0, _, _ => False
  | n + 1, cs, .mk kind nm E lo hi L El => ∃ (A1 : Option Addr) (l1 c1 : Nat) (A2 : Option Addr) (l2 c2 : Nat) (A3 : Option Addr) (l3 c3 : Nat),
      cs = [.int .i64 kind, .string (str nm), .slice A1 l1 c1, .int .i64 lo, .int .i64 hi, .slice A2 l2 c2, .slice A3 l3 c3] ∧
      ElsG D w 4 1000000 (QE D w) A1 l1 E ∧ ElsG D w 7 1000000 (SE D w n) A2 l2 L ∧ ElsG D w 7 1000000 (SE D w n) A3 l3 El
def QS (d : Nat) : Cel St := fun D w cs s => SE D w d cs s
theorem QI_kept : QKept QI := fun _ _ _ _ _ _ _ _ _ _ h => h
theorem QV_kept : QKept QV := fun _ _ _ _ _ _ _ _ _ _ h => h
theorem QE_kept : QKept QE := fun D _ _ w _ cs a hk hs hE h =>
  (TE.kept (D := fun k => D k ∧ k < w.heap.size) hk (fun k hd => hs k hd.2 hd.1) a cs (h.mono (fun _ hk hd => ⟨hd, hk⟩))).mono (fun _ _ hd => hE _ hd.2 hd.1)
theorem SE.kept {D E S : Nat → Prop} {w w' : World} (hk : Kept S w w') (hs : ∀ k, k < w.heap.size → D k → ¬ S k) (hE : ∀ k, k < w.heap.size → D k → E k) : ∀ (n : Nat) (cs : List Value) (s : St), SE D w n cs s → SE E w' n cs s
  | 0, _, _, h => h
  | n + 1, cs, .mk kind nm El lo hi L Ls, h => by
    obtain ⟨A1, l1, c1, A2, l2, c2, A3, l3, c3, h1, h2, h3, h4⟩ := h
    exact ⟨A1, l1, c1, A2, l2, c2, A3, l3, c3, h1, h2.kept hk hs hE (fun cs x h => QE_kept D E S w w' cs x hk hs hE h), h3.kept hk hs hE (SE.kept hk hs hE n), h4.kept hk hs hE (SE.kept hk hs hE n)⟩
theorem QS_kept (d : Nat) : QKept (QS d) := fun _ _ _ _ _ cs s hk hs hE h => SE.kept hk hs hE d cs s h

/-- A slice of elements of s cells each. -/
def IsRow {α : Type} (s : Nat) (Q : Cel α) (base : Nat) (w : World) (l : List α) (v : Value) : Prop :=
  ∃ (A : Option Addr) (n c : Nat), v = .slice A n c ∧ ElsG (fun k => base ≤ k) w s 1000000 (Q (fun k => base ≤ k) w) A n l
/-- A slice that can be read. -/
def ShR (s : Nat) (w : World) (v : Value) : Prop := ∃ (A : Option Addr) (n c : Nat) (xs : List Value), v = .slice A n c ∧ Reads w w.heap.size s A n xs ∧ (∀ u ∈ xs, u.oneCell' = true) ∧ n ≤ 100000
def ShL (_ : World) (v : Value) : Prop := ∃ (A : Option Addr) (n c : Nat), v = .slice A n c
/-- A struct. -/
def IsEl {α : Type} (Q : Cel α) (base : Nat) (w : World) (a : α) (v : Value) : Prop := ∃ cs : List Value, v = .agg (List.toArray cs) ∧ Q (fun k => base ≤ k) w cs a
def ShE (_ : World) (v : Value) : Prop := ∃ (op N : Int) (nm : ByteArray) (B : Option Addr) (l k : Nat), v = .agg #[.int .i64 op, .int .i64 N, .string nm, .slice B l k]
def ShV (_ : World) (v : Value) : Prop := ∃ (s : ByteArray) (a b c : Int), v = .agg #[.string s, .int .i64 a, .int .i64 b, .int .i64 c]
def ShSt (_ : World) (v : Value) : Prop := ∃ (kind : Int) (nm : ByteArray) (A1 : Option Addr) (l1 c1 : Nat) (lo hi : Int) (A2 : Option Addr) (l2 c2 : Nat) (A3 : Option Addr) (l3 c3 : Nat),
  v = .agg #[.int .i64 kind, .string nm, .slice A1 l1 c1, .int .i64 lo, .int .i64 hi, .slice A2 l2 c2, .slice A3 l3 c3]
def IsU (_ : World) (_ : Unit) (_ : Value) : Prop := True
def ShU (_ : World) (v : Value) : Prop := v = .tuple #[]
theorem IsRow.kept {α : Type} {s : Nat} {Q : Cel α} (hq : QKept Q) {b b' : Nat} {S : Nat → Prop} {w w' : World} {l : List α} {v : Value} (h : IsRow s Q b w l v) (hb : b' ≤ b) (hk : Kept S w w') (hs : ∀ k, k < w.heap.size → b ≤ k → ¬ S k) : IsRow s Q b' w' l v := by
  obtain ⟨A, n, c, h1, h2⟩ := h
  exact ⟨A, n, c, h1, h2.kept hk hs (fun k _ h => by omega) (fun cs a h => hq _ _ S w w' cs a hk hs (fun k _ h => by omega) h)⟩
theorem IsEl.kept {α : Type} {Q : Cel α} (hq : QKept Q) {b b' : Nat} {S : Nat → Prop} {w w' : World} {a : α} {v : Value} (h : IsEl Q b w a v) (hb : b' ≤ b) (hk : Kept S w w') (hs : ∀ k, k < w.heap.size → b ≤ k → ¬ S k) : IsEl Q b' w' a v := by
  obtain ⟨cs, h1, h2⟩ := h
  exact ⟨cs, h1, hq _ _ S w w' cs a hk hs (fun k _ h => by omega) h2⟩
/-- The call's own row of such elements. -/
def OwnA {α : Type} (s : Nat) (Q : Cel α) (w : World) (base : Nat) (t : TypeId) (v : Value) (l : List α) : Prop :=
  ∃ ys : List Value, w.ownsRow base t s v l.length ys ∧ ys.length = l.length * s ∧ (∀ u ∈ ys, u.oneCell' = true) ∧ ∀ i (h : i < l.length), Q (fun z => base ≤ z ∧ v.ownBlock ≠ some z) w ((ys.drop (i * s)).take s) (l[i]'h)
theorem OwnA.nil {α : Type} (s : Nat) (Q : Cel α) (w : World) (base : Nat) (t : TypeId) : OwnA s Q w base t (.slice none 0 0) ([] : List α) := ⟨[], World.ownsRow_nil _ _ _ _, by simp, by simp, fun i hi => by simp at hi⟩
theorem OwnA.slice {α : Type} {s : Nat} {Q : Cel α} {w : World} {base : Nat} {t : TypeId} {v : Value} {l : List α} (h : OwnA s Q w base t v l) : ∃ A c, v = .slice A l.length c := by
  obtain ⟨ys, h1, _, _, _⟩ := h
  obtain ⟨A, c, hv, _⟩ := own_is h1
  exact ⟨A, c, hv⟩
theorem OwnA.row {α : Type} {s : Nat} {Q : Cel α} (hq : QKept Q) {w : World} {base : Nat} {t : TypeId} {v : Value} {l : List α} (h : OwnA s Q w base t v l) (hM : l.length ≤ 1000000) : IsRow s Q base w l v := by
  obtain ⟨ys, h1, h2, _, h3⟩ := h
  obtain ⟨A, c, rfl, hb⟩ := own_is h1
  refine ⟨A, _, c, rfl, ys, Reads.of_own h1, fun hn a ha => own_ge h1 _ (hb a hn ha), hM, rfl, fun i hi => ?_⟩
  exact hq _ _ (fun _ => False) w w _ _ (Kept.refl _ w) (fun _ _ _ h => h) (fun _ _ h => h.1) (h3 i hi)
theorem chunk_oldS {ys cs : List Value} {k i s : Nat} (h : ys.length = k * s) (hi : i < k) : ((ys ++ cs).drop (i * s)).take s = (ys.drop (i * s)).take s := by
  have : i * s + s ≤ k * s := by
    have := Nat.mul_le_mul_right s (show i + 1 ≤ k by omega)
    rw [Nat.add_mul, Nat.one_mul] at this
    exact this
  rw [List.drop_append_of_le_length (by omega), List.take_append_of_le_length (by rw [List.length_drop]; omega)]
theorem chunk_newS {ys cs : List Value} {k s : Nat} (h : ys.length = k * s) (hc : cs.length = s) : ((ys ++ cs).drop (k * s)).take s = cs := by
  rw [List.drop_append_of_le_length (by omega), List.drop_of_length_le (by omega), List.nil_append, List.take_of_length_le (by omega)]
/-- One more. -/
theorem OwnA.push {α : Type} {s : Nat} {Q : Cel α} (hq : QKept Q) {w w' : World} {base : Nat} {t : TypeId} {v v' : Value} {l : List α} {a : α} {ys cs : List Value} {D : Nat → Prop} (ho : w'.ownsRow base t s v' (l.length + 1) (ys ++ cs)) (h2 : ys.length = l.length * s) (hc : cs.length = s) (h1 : ∀ u ∈ ys, u.oneCell' = true) (hc1 : ∀ u ∈ cs, u.oneCell' = true)
    (hold : ∀ i (h : i < l.length), Q (fun z => base ≤ z ∧ v.ownBlock ≠ some z) w ((ys.drop (i * s)).take s) (l[i]'h)) (hk : Kept (fun z => z < base ∨ v.ownBlock = some z) w w') (hv : ∀ k, k < w.heap.size → v.ownBlock ≠ some k → v'.ownBlock ≠ some k)
    (hnew : Q D w' cs a) (hD : ∀ k, k < w'.heap.size → D k → base ≤ k ∧ v'.ownBlock ≠ some k) : OwnA s Q w' base t v' (l ++ [a]) := by
  refine ⟨ys ++ cs, by rw [List.length_append, List.length_singleton]; exact ho, by rw [List.length_append, hc, h2, List.length_append, List.length_singleton, Nat.add_mul, Nat.one_mul], fun u hu => (List.mem_append.1 hu).elim (h1 u) (hc1 u), fun i hi => ?_⟩
  rw [List.length_append, List.length_singleton] at hi
  rcases Nat.lt_or_ge i l.length with h | h
  · rw [List.getElem_append_left h, chunk_oldS h2 h]
    exact hq _ _ _ w w' _ _ hk (fun k _ hd e => e.elim (fun e => by omega) hd.2) (fun k hk hd => ⟨hd.1, hv k hk hd.2⟩) (hold i h)
  · obtain rfl : i = l.length := by omega
    rw [List.getElem_append_right (by omega), chunk_newS h2 hc]
    have := hq _ _ (fun _ => False) w' w' _ _ (Kept.refl _ w') (fun _ _ _ h => h) hD hnew
    simpa using this
/-- Several more, out of another row. -/
theorem OwnA.cat {α : Type} {s : Nat} {Q : Cel α} (hq : QKept Q) {w w' : World} {base : Nat} {t : TypeId} {v v' : Value} {l l2 : List α} {ys zs : List Value} {D : Nat → Prop} (ho : w'.ownsRow base t s v' (l.length + l2.length) (ys ++ zs)) (h2 : ys.length = l.length * s) (hz : zs.length = l2.length * s) (h1 : ∀ u ∈ ys, u.oneCell' = true) (hz1 : ∀ u ∈ zs, u.oneCell' = true)
    (hold : ∀ i (h : i < l.length), Q (fun z => base ≤ z ∧ v.ownBlock ≠ some z) w ((ys.drop (i * s)).take s) (l[i]'h)) (hk : Kept (fun z => z < base ∨ v.ownBlock = some z) w w') (hv : ∀ k, k < w.heap.size → v.ownBlock ≠ some k → v'.ownBlock ≠ some k)
    (hnew : ∀ i (h : i < l2.length), Q D w' ((zs.drop (i * s)).take s) (l2[i]'h)) (hD : ∀ k, k < w'.heap.size → D k → base ≤ k ∧ v'.ownBlock ≠ some k) : OwnA s Q w' base t v' (l ++ l2) := by
  refine ⟨ys ++ zs, by rw [List.length_append]; exact ho, by rw [List.length_append, hz, h2, List.length_append, Nat.add_mul], fun u hu => (List.mem_append.1 hu).elim (h1 u) (hz1 u), fun i hi => ?_⟩
  rw [List.length_append] at hi
  rcases Nat.lt_or_ge i l.length with h | h
  · rw [List.getElem_append_left h, chunk_oldS h2 h]
    exact hq _ _ _ w w' _ _ hk (fun k _ hd e => e.elim (fun e => by omega) hd.2) (fun k hk hd => ⟨hd.1, hv k hk hd.2⟩) (hold i h)
  · rw [List.getElem_append_right h]
    have e1 : (ys ++ zs).drop (i * s) = zs.drop ((i - l.length) * s) := by
      have hle : l.length * s ≤ i * s := Nat.mul_le_mul_right s h
      rw [List.drop_append, List.drop_of_length_le (by omega), List.nil_append, h2, Nat.sub_mul]
    rw [e1]
    exact hq _ _ (fun _ => False) w' w' _ _ (Kept.refl _ w') (fun _ _ _ h => h) hD (hnew (i - l.length) (by omega))

theorem ShR.shl {s : Nat} {w : World} {v : Value} (h : ShR s w v) : ShL w v := by
  obtain ⟨A, n, c, _, h, _⟩ := h
  exact ⟨A, n, c, h⟩
theorem Reads.same {w : World} {B B' s n : Nat} {A : Option Addr} {xs ys : List Value} (h : Reads w B s A n xs) (k : Reads w B' s A n ys) : xs = ys := by
  rcases Nat.eq_zero_or_pos n with h0 | h0
  · subst h0
    rw [List.eq_nil_of_length_eq_zero (l := xs) (by simpa using h.1), List.eq_nil_of_length_eq_zero (l := ys) (by simpa using k.1)]
  · obtain ⟨a, ha, _, hc⟩ := h.2 h0
    obtain ⟨b, hb, _, kc⟩ := k.2 h0
    rw [ha] at hb
    cases hb
    refine List.ext_getElem (h.1.trans k.1.symm) (fun j h1 h2 => ?_)
    have e1 := hc j _ (List.getElem?_eq_getElem h1)
    have e2 := kc j _ (List.getElem?_eq_getElem h2)
    exact Option.some.inj (e1.symm.trans e2)
theorem must_step (g c : Nat) (A : Option Addr) (m : Nat → Nat) (ts : List Tk) (i : Nat) (dp er : Int) (x : List UInt8) (w : World) (h : Par w g A c m ts i dp er) :
    Calls Tryd.prog 56 #[.pointer (some ⟨g, 0, none⟩), .string (str x)] w (StepTo w g c A m ts dp (stP (mustP x) ts i er) IsU ShU) := by
  obtain ⟨t, ht⟩ := ParS.at_some h.at_
  refine (must_any g c A m ts i dp er x w h t ht).mono ?_
  rintro e w1 ⟨rfl, p1, k1⟩
  exact ⟨_, rfl, k1, rfl, _, _, p1, must_ps ht x⟩
theorem own_keptS {w w' : World} {base size n : Nat} {e : TypeId} {v : Value} {xs : List Value} {T : Nat → Prop} (h : w.ownsRow base e size v n xs) (hk : Kept T w w') (hs : ∀ k, v.ownBlock = some k → ¬ T k) : w'.ownsRow base e size v n xs := by
  refine ⟨h.1, ?_⟩
  rcases h.2 with h2 | ⟨g, cap, cur, hv, hg, hh, r⟩
  · exact .inl h2
  · have hlt : g < w.heap.size := Blk.lt (t := e) (cs := cur) hh
    exact .inr ⟨g, cap, cur, hv, hg, (hk.block g hlt (hs g (by rw [hv]; rfl))).trans hh, r⟩
theorem kept_or {S T : Nat → Prop} {a b : World} (h : Kept S a b) : Kept (fun z => S z ∨ T z) a b := h.mono (fun _ _ h => .inl h)
end Go.Proofs.YtdmlnoeneoomfaaDoor
namespace Go.Proofs.YtdmlnoeneoomfaaDoor
open Go.RowKit

theorem PsAt.ok_iff {α : Type} {ts : List Tk} {i : Nat} {er : Int} {p : PS α} {Q : α → Prop} (h : PsAt ts i er p Q) (he : er = 0) : ∃ a, p = .ok a (ts.drop i) ∧ Q a := by
  cases p with
  | ok a r => exact ⟨a, by rw [h.1], h.2.2⟩
  | bad r e => exact absurd he h.2.2
theorem PsAt.bad_iff {α : Type} {ts : List Tk} {i : Nat} {er : Int} {p : PS α} {Q : α → Prop} (h : PsAt ts i er p Q) (he : er ≠ 0) : p = .bad (ts.drop i) er := by
  cases p with
  | ok a r => exact absurd h.2.1 he
  | bad r e => rw [h.1, h.2.1]
/-- Each one takes a token at least. -/
def EatsP {α : Type} (one : List Tk → PS α) : Prop := ∀ r a r', one r = .ok a r' → r'.length < r.length
/-- Where a list stands: what is read, and what is to come. -/
def LJ {α : Type} (s : Nat) (Q : Cel α) (t : TypeId) (base : Nat) (ts : List Tk) (more : List Tk → Bool) (one : List Tk → PS α) (goal : PS (List α)) (v : Value) (wr : World) (j : Nat) (er : Int) : Prop :=
  (er = 0 ∧ ∃ (acc : List α) (f : Nat), OwnA s Q wr base t v acc ∧ (ts.drop j).length ≤ f ∧ goal = listP more one f acc (ts.drop j) ∧ acc.length ≤ j) ∨ (er ≠ 0 ∧ (∃ (n : Nat) (ys : List Value), wr.ownsRow base t s v n ys ∧ (∀ u ∈ ys, u.oneCell' = true) ∧ n ≤ 100000) ∧ goal = .bad (ts.drop j) er)
theorem LJ.start {α : Type} (s : Nat) (Q : Cel α) (t : TypeId) (base : Nat) (ts : List Tk) (more : List Tk → Bool) (one : List Tk → PS α) (w : World) (j : Nat) (er : Int) : LJ s Q t base ts more one (stP (fun r => listP more one r.length [] r) ts j er) (.slice none 0 0) w j er := by
  by_cases he : er = 0
  · subst he
    exact .inl ⟨rfl, [], _, OwnA.nil _ _ _ _ _, Nat.le_refl _, by unfold stP; rw [if_pos rfl], by simp⟩
  · exact .inr ⟨he, ⟨0, [], World.ownsRow_nil _ _ _ _, by simp, by omega⟩, by unfold stP; rw [if_neg he]⟩
theorem LJ.done {α : Type} {s : Nat} {Q : Cel α} {t : TypeId} {base : Nat} {ts : List Tk} {more : List Tk → Bool} {one : List Tk → PS α} {goal : PS (List α)} {v : Value} {wr w : World} {j : Nat} {er : Int} (hq : QKept Q) (h : LJ s Q t base ts more one goal v wr j er) (hj : j ≤ 100000) (hm : stB more ts j er = false) (hk : Kept (fun _ => False) wr w) : ShR s w v ∧ PsAt ts j er goal (fun l => IsRow s Q base w l v) := by
  rcases h with ⟨rfl, acc, f, ho, hf, rfl, hl⟩ | ⟨he, hs, rfl⟩
  · refine ⟨?_, ?_⟩
    · obtain ⟨ys, o1, o2, o3, _⟩ := ho
      obtain ⟨A, c, rfl, _⟩ := own_is o1
      exact ⟨A, _, c, ys, rfl, (Reads.of_own o1).keptfar hk (fun _ _ h => h), o3, by omega⟩
    have hm' : more (ts.drop j) = false := by
      unfold stB at hm
      simpa using hm
    have e1 : listP more one f acc (ts.drop j) = .ok acc (ts.drop j) := by
      cases f with
      | zero => rfl
      | succ f => simp only [listP]; rw [hm']; rfl
    rw [e1]
    exact ⟨rfl, rfl, (ho.row hq (by omega)).kept hq (Nat.le_refl _) hk (fun _ _ _ h => h)⟩
  · obtain ⟨n, ys, o1, o3, hn⟩ := hs
    obtain ⟨A, c, rfl, _⟩ := own_is o1
    exact ⟨⟨A, n, c, ys, rfl, (Reads.of_own o1).keptfar hk (fun _ _ h => h), o3, hn⟩, rfl, rfl, he⟩
theorem LJ.go {α : Type} {s : Nat} {Q : Cel α} {t : TypeId} {base : Nat} {ts : List Tk} {more : List Tk → Bool} {one : List Tk → PS α} {goal : PS (List α)} {v : Value} {wr : World} {j : Nat} {er : Int} (h : LJ s Q t base ts more one goal v wr j er) (hm : stB more ts j er = true) : er = 0 ∧ more (ts.drop j) = true ∧ ∃ (acc : List α) (f : Nat), OwnA s Q wr base t v acc ∧ (ts.drop j).length ≤ f ∧ goal = listP more one f acc (ts.drop j) ∧ acc.length ≤ j := by
  rcases h with ⟨rfl, h⟩ | ⟨he, _⟩
  · exact ⟨rfl, by unfold stB at hm; simpa using hm, h⟩
  · unfold stB at hm
    have he' : (er == 0) = false := by simp [he]
    simp [he'] at hm
/-- The list's measure. -/
def LM (ts : List Tk) (g : Nat) (w : World) : Nat := match w.cell? ⟨g, 8, none⟩, w.cell? ⟨g, 1, none⟩ with
  | some (.int _ e), some (.int _ j) => if e = 0 then 1 + (ts.length - j.toNat) else 0
  | _, _ => 0
theorem LM_eq {w : World} {g c : Nat} {A : Option Addr} {m : Nat → Nat} {ts : List Tk} {i : Nat} {dp er : Int} (h : Par w g A c m ts i dp er) : LM ts g w = if er = 0 then 1 + (ts.length - i) else 0 := by
  have B := h.blk
  unfold parCells at B
  have c8 : w.cell? ⟨g, 8, none⟩ = some (.int .i64 er) := B.cell 8
  have c1 : w.cell? ⟨g, 1, none⟩ = some (.int .i64 i) := B.cell 1
  unfold LM
  rw [c8, c1]
  simp
theorem reads_new (W : World) (t : TypeId) (cs : Array Value) (n : Nat) (hn : cs.size = n) : Reads (W.alloc (.cells cs t)) (W.heap.size + 1) n (some ⟨W.heap.size, 0, none⟩) 1 cs.toList := by
  refine ⟨by simp [hn], fun _ => ⟨_, rfl, by simp, fun j u hu => ?_⟩⟩
  rw [Addr.add_lit, Nat.zero_add, (Blk.new W t cs).cell j]
  simpa using hu
/-- What the round's end gives: the list has one more, or it is wrong. -/
theorem LJ.next {α : Type} {s : Nat} {Q : Cel α} (hq : QKept Q) {t : TypeId} {base : Nat} {ts : List Tk} {more : List Tk → Bool} {one : List Tk → PS α} {goal : PS (List α)} {v v8 : Value} {wr w2 w8 : World} {j j2 f : Nat} {er2 : Int} {acc : List α} {ys cs : List Value} {R : α → Prop}
    (hm : more (ts.drop j) = true) (heat : EatsP one) (hjl : j < ts.length) (hj2 : j2 < ts.length) (hf : (ts.drop j).length ≤ f) (hg : goal = listP more one f acc (ts.drop j)) (hl : acc.length ≤ j) (hps : PsAt ts j2 er2 (one (ts.drop j)) R)
    (hR : ∀ a, R a → Q (fun k => wr.heap.size ≤ k ∧ k < w2.heap.size) w8 cs a) (hyl : ys.length = acc.length * s) (hcs : cs.length = s) (h1 : ∀ u ∈ ys, u.oneCell' = true) (hc1 : ∀ u ∈ cs, u.oneCell' = true) (hlim : ts.length ≤ 70000) (hold : ∀ i (h : i < acc.length), Q (fun z => base ≤ z ∧ v.ownBlock ≠ some z) wr ((ys.drop (i * s)).take s) (acc[i]'h))
    (ho8 : w8.ownsRow base t s v8 (acc.length + 1) (ys ++ cs)) (hk : Kept (fun z => z < base ∨ v.ownBlock = some z) wr w8) (hown : ∀ k, v.ownBlock = some k → k < wr.heap.size) (hat : v8.ownBlock = v.ownBlock ∨ ∃ z, v8.ownBlock = some z ∧ w2.heap.size ≤ z) (hb : base ≤ wr.heap.size) (hz2 : wr.heap.size ≤ w2.heap.size) :
    LJ s Q t base ts more one goal v8 w8 j2 er2 := by
  by_cases he : er2 = 0
  · subst he
    obtain ⟨a, ha, hQ⟩ := hps.ok_iff rfl
    have hlt := heat _ _ _ ha
    rw [List.length_drop, List.length_drop] at hlt
    refine .inl ⟨rfl, acc ++ [a], f - 1, ?_, ?_, ?_, ?_⟩
    · refine OwnA.push hq ho8 hyl hcs h1 hc1 hold hk (fun k hk' hne e => ?_) (hR a hQ) (fun k _ hd => ⟨by omega, fun e => ?_⟩)
      · rcases hat with h | ⟨z, h, hz⟩
        · exact hne (h ▸ e)
        · rw [h] at e
          have := Option.some.inj e
          omega
      · rcases hat with h | ⟨z, h, hz⟩
        · have := hown k (h ▸ e)
          omega
        · rw [h] at e
          have := Option.some.inj e
          omega
    · rw [List.length_drop] at hf ⊢
      omega
    · rw [hg]
      rw [List.length_drop] at hf
      obtain ⟨f', rfl⟩ : ∃ f', f = f' + 1 := ⟨f - 1, by omega⟩
      simp only [listP]
      rw [hm, ha]
      rfl
    · rw [List.length_append, List.length_singleton]
      omega
  · refine .inr ⟨he, ?_, ?_⟩
    · exact ⟨_, _, ho8, fun u hu => (List.mem_append.1 hu).elim (h1 u) (hc1 u), by omega⟩
    · rw [hg]
      rw [List.length_drop] at hf
      obtain ⟨f', rfl⟩ : ∃ f', f = f' + 1 := ⟨f - 1, by omega⟩
      simp only [listP]
      rw [hm, hps.bad_iff he]
      rfl

theorem info_listI : (Tryd.prog.info? 3).map (fun i => (i.zero, i.size, i.bytes)) = some (some (.int .i64 0), 1, 8) := by kernel_rfl
set_option maxHeartbeats 4000000 in
set_option maxRecDepth 100000 in
theorem listI_any (g c : Nat) (A : Option Addr) (m : Nat → Nat) (ts : List Tk) (dp : Int) (one : List Tk → PS Int) (R : Nat → World → Int → Value → Prop) (heat : EatsP one)
    (hR : ∀ (b : Nat) (w : World) (a : Int) (n : Int), R b w a (.int .i64 n) → QI (fun k => b ≤ k) w [.int .i64 n] a)
    (hone : ∀ (i : Nat) (w : World), Par w g A c m ts i dp 0 → (kindT 2) (ts.drop i) = true → Calls Tryd.prog 58 #[.pointer (some ⟨g, 0, none⟩)] w (StepTo w g c A m ts dp (one (ts.drop i)) (R w.heap.size) ShN))
    (i : Nat) (er : Int) (w : World) (h : Par w g A c m ts i dp er) :
    Calls Tryd.prog 59 #[.func (.func 60) #[.pointer (some ⟨g, 0, none⟩)] #[], .func (.func 58) #[.pointer (some ⟨g, 0, none⟩)] #[]] w
      (StepTo w g c A m ts dp (stP (fun r => listP (kindT 2) one r.length [] r) ts i er) (IsRow 1 QI w.heap.size) (ShR 1)) := by
  have HMORE := Lib.hid (fun (i : Nat) (er : Int) (w : World) (h : Par w g A c m ts i dp er) => isNumber_any g c A m ts i dp er w h)
  have HONE := Lib.hid hone
  have HR := Lib.hid hR
  have HEAT := Lib.hid heat
  have HP := Lib.hid h
  have lim := h.st.lim
  have hgl := h.blk.lt
  have HLJ := Lib.hid (LJ.start 1 QI 3 w.heap.size ts (kindT 2) one w i er)
  generalize stP (fun r => listP (kindT 2) one r.length [] r) ts i er = goal at *
  clear h hone heat hR
  go_enter Tryd.func59, Tryd.ntmps59
  go_wp2_with fail
  go_loopw [5] (fun v wr => ∃ (j : Nat) (er' : Int), Hid (Par wr g A c m ts j dp er') ∧ Hid (Kept (fun z => z = g) w wr) ∧ Hid (LJ 1 QI 3 w.heap.size ts (kindT 2) one goal v wr j er')) (fun _ wr => LM ts g wr)
  case atStart => exact ⟨i, er, HP.out, Kept.refl _ w, HLJ.out⟩
  case round =>
    obtain ⟨j, er', hp, hk, hlj⟩ := hrel
    have HM := Lib.hid (HMORE.out j er' wr hp.out)
    have hwz := hk.out.size
    obtain ⟨b, hb⟩ : ∃ b, stB (kindT 2) ts j er' = b := ⟨_, rfl⟩
    rw [hb] at HM
    have HB := Lib.hid hb
    clear hb
    cases b
    · go_wp2_with fail
      refine HM.out.mono ?_
      rintro e w1 ⟨rfl, q, rfl⟩
      have HD := Lib.hid (hlj.out.done QI_kept (by have := hp.out.at_; omega) HB.out ((Kept.refl (fun _ => False) wr).drewN q))
      have HP9 := Lib.hid (hp.out.drewN q)
      have HK9 := Lib.hid (hk.out.drewN q)
      go_wp2_with fail
      go_ret
      exact ⟨_, rfl, HK9.out, HD.out.1, j, er', HP9.out, HD.out.2⟩
    · obtain ⟨rfl, hmore, acc, f, ho, hf, hg, hal⟩ := hlj.out.go HB.out
      have HG := Lib.hid hg
      have HF := Lib.hid hf
      have HMO := Lib.hid hmore
      obtain ⟨ys, how, hyl, hone1, hold⟩ := ho
      have HON := Lib.hid hone1
      have HOW := Lib.hid how
      have HYL := Lib.hid hyl
      have HOLD := Lib.hid hold
      have hog := Lib.hid (own_ge how)
      have hol := Lib.hid (own_lt how)
      have hjt := hp.out.at_
      have hal2 := hal
      have hal2x := Lib.hid hal
      obtain ⟨an, HAN⟩ : ∃ an, Hid (acc.length = an) := ⟨_, rfl⟩
      rw [show acc.length = an from HAN.out] at how hal2
      have HOA := Lib.hid how
      have HLMw := Lib.hid (LM_eq hp.out)
      clear hmore hg hf hal how hyl hold hlj hone1
      obtain ⟨jt, HJT⟩ : ∃ n, Hid (ts.length = n) := ⟨_, rfl⟩
      rw [show ts.length = jt from HJT.out] at hjt lim
      go_wp2_with fail
      refine HM.out.mono ?_
      rintro e w1 ⟨rfl, q, rfl⟩
      have CO := Lib.hid (HONE.out j (wr.drewN q) (hp.out.drewN q) HMO.out)
      have K1 := Lib.hid ((Kept.refl (fun _ => False) wr).drewN q)
      have zq : (wr.drewN q).heap.size = wr.heap.size := rfl
      generalize wr.drewN q = w1 at *
      go_wp2_with fail
      refine CO.out.mono ?_
      rintro e w2 ⟨v2, rfl, k2, ⟨n, rfl⟩, j2, er2, p2, ps2⟩
      obtain ⟨i0, hi0, hz0, hz1, hz2⟩ := info_parts info_listI
      have z2 := k2.size
      have hgg := hp.out.blk.lt
      have KG : Hid (∀ z, u5.ownBlock = some z → z ≠ g) := fun z e hz => by have := hog.out z e; omega
      have F2 := Lib.hid ((K1.out.mono (T := fun z => z = g) (fun _ _ h => h.elim)).then_ k2 (fun _ _ h => h))
      have o2 := Lib.hid (World.ownsRow.alloc (own_keptS HOA.out F2.out KG.out) (.cells #[.int .i64 n] 3))
      have RD := Lib.hid (reads_new w2 3 #[.int .i64 n] 1 rfl)
      have ONE : Hid (∀ u ∈ ([.int .i64 n] : List Value), u.oneCell' = true) := by
        intro u hu
        simp only [List.mem_cons, List.not_mem_nil, or_false] at hu
        rcases hu with rfl <;> rfl
      have za : (w2.alloc (.cells #[.int .i64 n] 3)).heap.size = w2.heap.size + 1 := by simp
      have P2 := Lib.hid p2
      have PS2 := Lib.hid ps2
      have K2 := Lib.hid k2
      clear p2 ps2 k2
      go_wp2_with (at_builtin; refine wpList_append_any _ rfl (.tmp 8) (.tmp 11) 45 rfl w.heap.size 3 i0 _ 1 8 Tryd.underlying45 hi0 hz0 hz1 hz2 rfl (by omega) _ an ys rfl o2.out _ _ 1 1 [.int .i64 n] rfl RD.out ONE.out (by unfold maxLen; omega) (by omega) (by simp; omega) ?_; intro v8 w8 o8 g8 at8)
      have K8 : Kept (fun z => u5.ownBlock = some z) w2 w8 := ((Kept.refl (fun z => u5.ownBlock = some z) w2).alloc _).then_ (Kept.of_grown g8 (fun _ e => e)) (fun _ _ e => e)
      have ho8 := o8
      rw [← show acc.length = an from HAN.out] at ho8
      have KG8 : Hid (Kept (fun z => z = g) w w8) := (hk.out.then_ F2.out (fun _ _ e => e)).then_ K8 (fun z hz e => by have := hog.out z e; omega)
      have HP8 : Hid (Par w8 g A c m ts j2 dp er2) := HP.out.put P2.out.at_ (P2.out.blk.kept K8 (fun e => KG.out g e rfl)) KG8.out
      have HL8 : Hid (LJ 1 QI 3 w.heap.size ts (kindT 2) one goal v8 w8 j2 er2) := by
        refine LJ.next (wr := wr) (w2 := w2) QI_kept HMO.out HEAT.out (by rw [HJT.out]; exact hjt) P2.out.at_ HF.out HG.out hal2x.out PS2.out (fun a ha => ?_) HYL.out rfl HON.out ONE.out (by rw [HJT.out]; exact lim) HOLD.out ho8 ((F2.out.mono (fun z _ e => .inl (by omega))).then_ K8 (fun z _ e => .inr e)) hol.out ?_ hwz (by omega)
        · exact QI_kept _ _ _ w2 w8 _ a K8 (fun k _ hk e => by have := hol.out k e; omega) (fun k hk h => ⟨by omega, hk⟩) (HR.out _ _ a n ha)
        · rcases at8 with h | h
          · exact .inl h
          · exact .inr ⟨_, h, by omega⟩
      have HME : Hid (LM ts g w8 < LM ts g wr) := by
        show LM ts g w8 < LM ts g wr
        have h1 : LM ts g wr = 1 + (ts.length - j) := by
          have := HLMw.out
          simpa using this
        have h2 : j < ts.length := by rw [HJT.out]; exact hjt
        rw [LM_eq HP8.out, h1]
        split
        · rename_i he
          obtain ⟨a, ha, _⟩ := PS2.out.ok_iff he
          have := HEAT.out _ _ _ ha
          rw [List.length_drop, List.length_drop] at this
          omega
        · omega
      clear o8 g8 at8 K8 ho8
      go_wp2_with fail
      go_roundw
      case rel => exact ⟨j2, er2, HP8.out, KG8.out, HL8.out⟩
      case measure => exact HME.out

theorem info_listV : (Tryd.prog.info? 116).map (fun i => (i.zero, i.size, i.bytes)) = some (some (.agg #[.string ByteArray.empty, .int .i64 0, .int .i64 0, .int .i64 0]), 4, 40) := by kernel_rfl
set_option maxHeartbeats 4000000 in
set_option maxRecDepth 100000 in
theorem listV_any (g c : Nat) (A : Option Addr) (m : Nat → Nat) (ts : List Tk) (dp : Int) (one : List Tk → PS Va) (R : Nat → World → Va → Value → Prop) (heat : EatsP one)
    (hR : ∀ (b : Nat) (w : World) (a : Va) (s : ByteArray) (a1 b1 c1 : Int), R b w a (.agg #[.string s, .int .i64 a1, .int .i64 b1, .int .i64 c1]) → QV (fun k => b ≤ k) w [.string s, .int .i64 a1, .int .i64 b1, .int .i64 c1] a)
    (hone : ∀ (i : Nat) (w : World), Par w g A c m ts i dp 0 → (hasT [118, 97, 114]) (ts.drop i) = true → Calls Tryd.prog 63 #[.pointer (some ⟨g, 0, none⟩)] w (StepTo w g c A m ts dp (one (ts.drop i)) (R w.heap.size) ShV))
    (i : Nat) (er : Int) (w : World) (h : Par w g A c m ts i dp er) :
    Calls Tryd.prog 61 #[.func (.func 62) #[.pointer (some ⟨g, 0, none⟩)] #[], .func (.func 63) #[.pointer (some ⟨g, 0, none⟩)] #[]] w
      (StepTo w g c A m ts dp (stP (fun r => listP (hasT [118, 97, 114]) one r.length [] r) ts i er) (IsRow 4 QV w.heap.size) (ShR 4)) := by
  have HMORE := Lib.hid (fun (i : Nat) (er : Int) (w : World) (h : Par w g A c m ts i dp er) => isVar_any g c A m ts i dp er w h)
  have HONE := Lib.hid hone
  have HR := Lib.hid hR
  have HEAT := Lib.hid heat
  have HP := Lib.hid h
  have lim := h.st.lim
  have hgl := h.blk.lt
  have HLJ := Lib.hid (LJ.start 4 QV 116 w.heap.size ts (hasT [118, 97, 114]) one w i er)
  generalize stP (fun r => listP (hasT [118, 97, 114]) one r.length [] r) ts i er = goal at *
  clear h hone heat hR
  go_enter Tryd.func61, Tryd.ntmps61
  go_wp2_with fail
  go_loopw [5] (fun v wr => ∃ (j : Nat) (er' : Int), Hid (Par wr g A c m ts j dp er') ∧ Hid (Kept (fun z => z = g) w wr) ∧ Hid (LJ 4 QV 116 w.heap.size ts (hasT [118, 97, 114]) one goal v wr j er')) (fun _ wr => LM ts g wr)
  case atStart => exact ⟨i, er, HP.out, Kept.refl _ w, HLJ.out⟩
  case round =>
    obtain ⟨j, er', hp, hk, hlj⟩ := hrel
    have HM := Lib.hid (HMORE.out j er' wr hp.out)
    have hwz := hk.out.size
    obtain ⟨b, hb⟩ : ∃ b, stB (hasT [118, 97, 114]) ts j er' = b := ⟨_, rfl⟩
    rw [hb] at HM
    have HB := Lib.hid hb
    clear hb
    cases b
    · go_wp2_with fail
      refine HM.out.mono ?_
      rintro e w1 ⟨rfl, q, rfl⟩
      have HD := Lib.hid (hlj.out.done QV_kept (by have := hp.out.at_; omega) HB.out ((Kept.refl (fun _ => False) wr).drewN q))
      have HP9 := Lib.hid (hp.out.drewN q)
      have HK9 := Lib.hid (hk.out.drewN q)
      go_wp2_with fail
      go_ret
      exact ⟨_, rfl, HK9.out, HD.out.1, j, er', HP9.out, HD.out.2⟩
    · obtain ⟨rfl, hmore, acc, f, ho, hf, hg, hal⟩ := hlj.out.go HB.out
      have HG := Lib.hid hg
      have HF := Lib.hid hf
      have HMO := Lib.hid hmore
      obtain ⟨ys, how, hyl, hone1, hold⟩ := ho
      have HON := Lib.hid hone1
      have HOW := Lib.hid how
      have HYL := Lib.hid hyl
      have HOLD := Lib.hid hold
      have hog := Lib.hid (own_ge how)
      have hol := Lib.hid (own_lt how)
      have hjt := hp.out.at_
      have hal2 := hal
      have hal2x := Lib.hid hal
      obtain ⟨an, HAN⟩ : ∃ an, Hid (acc.length = an) := ⟨_, rfl⟩
      rw [show acc.length = an from HAN.out] at how hal2
      have HOA := Lib.hid how
      have HLMw := Lib.hid (LM_eq hp.out)
      clear hmore hg hf hal how hyl hold hlj hone1
      obtain ⟨jt, HJT⟩ : ∃ n, Hid (ts.length = n) := ⟨_, rfl⟩
      rw [show ts.length = jt from HJT.out] at hjt lim
      go_wp2_with fail
      refine HM.out.mono ?_
      rintro e w1 ⟨rfl, q, rfl⟩
      have CO := Lib.hid (HONE.out j (wr.drewN q) (hp.out.drewN q) HMO.out)
      have K1 := Lib.hid ((Kept.refl (fun _ => False) wr).drewN q)
      have zq : (wr.drewN q).heap.size = wr.heap.size := rfl
      generalize wr.drewN q = w1 at *
      go_wp2_with fail
      refine CO.out.mono ?_
      rintro e w2 ⟨v2, rfl, k2, ⟨s, a1, b1, c1, rfl⟩, j2, er2, p2, ps2⟩
      obtain ⟨i0, hi0, hz0, hz1, hz2⟩ := info_parts info_listV
      have z2 := k2.size
      have hgg := hp.out.blk.lt
      have KG : Hid (∀ z, u5.ownBlock = some z → z ≠ g) := fun z e hz => by have := hog.out z e; omega
      have F2 := Lib.hid ((K1.out.mono (T := fun z => z = g) (fun _ _ h => h.elim)).then_ k2 (fun _ _ h => h))
      have o2 := Lib.hid (World.ownsRow.alloc (own_keptS HOA.out F2.out KG.out) (.cells #[.string s, .int .i64 a1, .int .i64 b1, .int .i64 c1] 116))
      have RD := Lib.hid (reads_new w2 116 #[.string s, .int .i64 a1, .int .i64 b1, .int .i64 c1] 4 rfl)
      have ONE : Hid (∀ u ∈ ([.string s, .int .i64 a1, .int .i64 b1, .int .i64 c1] : List Value), u.oneCell' = true) := by
        intro u hu
        simp only [List.mem_cons, List.not_mem_nil, or_false] at hu
        rcases hu with rfl | rfl | rfl | rfl <;> rfl
      have za : (w2.alloc (.cells #[.string s, .int .i64 a1, .int .i64 b1, .int .i64 c1] 116)).heap.size = w2.heap.size + 1 := by simp
      have P2 := Lib.hid p2
      have PS2 := Lib.hid ps2
      have K2 := Lib.hid k2
      clear p2 ps2 k2
      go_wp2_with (at_builtin; refine wpList_append_any _ rfl (.tmp 8) (.tmp 11) 51 rfl w.heap.size 116 i0 _ 4 40 Tryd.underlying51 hi0 hz0 hz1 hz2 rfl (by omega) _ an ys rfl o2.out _ _ 1 1 [.string s, .int .i64 a1, .int .i64 b1, .int .i64 c1] rfl RD.out ONE.out (by unfold maxLen; omega) (by omega) (by simp; omega) ?_; intro v8 w8 o8 g8 at8)
      have K8 : Kept (fun z => u5.ownBlock = some z) w2 w8 := ((Kept.refl (fun z => u5.ownBlock = some z) w2).alloc _).then_ (Kept.of_grown g8 (fun _ e => e)) (fun _ _ e => e)
      have ho8 := o8
      rw [← show acc.length = an from HAN.out] at ho8
      have KG8 : Hid (Kept (fun z => z = g) w w8) := (hk.out.then_ F2.out (fun _ _ e => e)).then_ K8 (fun z hz e => by have := hog.out z e; omega)
      have HP8 : Hid (Par w8 g A c m ts j2 dp er2) := HP.out.put P2.out.at_ (P2.out.blk.kept K8 (fun e => KG.out g e rfl)) KG8.out
      have HL8 : Hid (LJ 4 QV 116 w.heap.size ts (hasT [118, 97, 114]) one goal v8 w8 j2 er2) := by
        refine LJ.next (wr := wr) (w2 := w2) QV_kept HMO.out HEAT.out (by rw [HJT.out]; exact hjt) P2.out.at_ HF.out HG.out hal2x.out PS2.out (fun a ha => ?_) HYL.out rfl HON.out ONE.out (by rw [HJT.out]; exact lim) HOLD.out ho8 ((F2.out.mono (fun z _ e => .inl (by omega))).then_ K8 (fun z _ e => .inr e)) hol.out ?_ hwz (by omega)
        · exact QV_kept _ _ _ w2 w8 _ a K8 (fun k _ hk e => by have := hol.out k e; omega) (fun k hk h => ⟨by omega, hk⟩) (HR.out _ _ a s a1 b1 c1 ha)
        · rcases at8 with h | h
          · exact .inl h
          · exact .inr ⟨_, h, by omega⟩
      have HME : Hid (LM ts g w8 < LM ts g wr) := by
        show LM ts g w8 < LM ts g wr
        have h1 : LM ts g wr = 1 + (ts.length - j) := by
          have := HLMw.out
          simpa using this
        have h2 : j < ts.length := by rw [HJT.out]; exact hjt
        rw [LM_eq HP8.out, h1]
        split
        · rename_i he
          obtain ⟨a, ha, _⟩ := PS2.out.ok_iff he
          have := HEAT.out _ _ _ ha
          rw [List.length_drop, List.length_drop] at this
          omega
        · omega
      clear o8 g8 at8 K8 ho8
      go_wp2_with fail
      go_roundw
      case rel => exact ⟨j2, er2, HP8.out, KG8.out, HL8.out⟩
      case measure => exact HME.out

theorem info_listC : (Tryd.prog.info? 116).map (fun i => (i.zero, i.size, i.bytes)) = some (some (.agg #[.string ByteArray.empty, .int .i64 0, .int .i64 0, .int .i64 0]), 4, 40) := by kernel_rfl
set_option maxHeartbeats 4000000 in
set_option maxRecDepth 100000 in
theorem listC_any (g c : Nat) (A : Option Addr) (m : Nat → Nat) (ts : List Tk) (dp : Int) (one : List Tk → PS Va) (R : Nat → World → Va → Value → Prop) (heat : EatsP one)
    (hR : ∀ (b : Nat) (w : World) (a : Va) (s : ByteArray) (a1 b1 c1 : Int), R b w a (.agg #[.string s, .int .i64 a1, .int .i64 b1, .int .i64 c1]) → QV (fun k => b ≤ k) w [.string s, .int .i64 a1, .int .i64 b1, .int .i64 c1] a)
    (hone : ∀ (i : Nat) (w : World), Par w g A c m ts i dp 0 → (hasT [44]) (ts.drop i) = true → Calls Tryd.prog 83 #[.pointer (some ⟨g, 0, none⟩)] w (StepTo w g c A m ts dp (one (ts.drop i)) (R w.heap.size) ShV))
    (i : Nat) (er : Int) (w : World) (h : Par w g A c m ts i dp er) :
    Calls Tryd.prog 61 #[.func (.func 82) #[.pointer (some ⟨g, 0, none⟩)] #[], .func (.func 83) #[.pointer (some ⟨g, 0, none⟩)] #[]] w
      (StepTo w g c A m ts dp (stP (fun r => listP (hasT [44]) one r.length [] r) ts i er) (IsRow 4 QV w.heap.size) (ShR 4)) := by
  have HMORE := Lib.hid (fun (i : Nat) (er : Int) (w : World) (h : Par w g A c m ts i dp er) => isComma_any g c A m ts i dp er w h)
  have HONE := Lib.hid hone
  have HR := Lib.hid hR
  have HEAT := Lib.hid heat
  have HP := Lib.hid h
  have lim := h.st.lim
  have hgl := h.blk.lt
  have HLJ := Lib.hid (LJ.start 4 QV 116 w.heap.size ts (hasT [44]) one w i er)
  generalize stP (fun r => listP (hasT [44]) one r.length [] r) ts i er = goal at *
  clear h hone heat hR
  go_enter Tryd.func61, Tryd.ntmps61
  go_wp2_with fail
  go_loopw [5] (fun v wr => ∃ (j : Nat) (er' : Int), Hid (Par wr g A c m ts j dp er') ∧ Hid (Kept (fun z => z = g) w wr) ∧ Hid (LJ 4 QV 116 w.heap.size ts (hasT [44]) one goal v wr j er')) (fun _ wr => LM ts g wr)
  case atStart => exact ⟨i, er, HP.out, Kept.refl _ w, HLJ.out⟩
  case round =>
    obtain ⟨j, er', hp, hk, hlj⟩ := hrel
    have HM := Lib.hid (HMORE.out j er' wr hp.out)
    have hwz := hk.out.size
    obtain ⟨b, hb⟩ : ∃ b, stB (hasT [44]) ts j er' = b := ⟨_, rfl⟩
    rw [hb] at HM
    have HB := Lib.hid hb
    clear hb
    cases b
    · go_wp2_with fail
      refine HM.out.mono ?_
      rintro e w1 ⟨rfl, q, rfl⟩
      have HD := Lib.hid (hlj.out.done QV_kept (by have := hp.out.at_; omega) HB.out ((Kept.refl (fun _ => False) wr).drewN q))
      have HP9 := Lib.hid (hp.out.drewN q)
      have HK9 := Lib.hid (hk.out.drewN q)
      go_wp2_with fail
      go_ret
      exact ⟨_, rfl, HK9.out, HD.out.1, j, er', HP9.out, HD.out.2⟩
    · obtain ⟨rfl, hmore, acc, f, ho, hf, hg, hal⟩ := hlj.out.go HB.out
      have HG := Lib.hid hg
      have HF := Lib.hid hf
      have HMO := Lib.hid hmore
      obtain ⟨ys, how, hyl, hone1, hold⟩ := ho
      have HON := Lib.hid hone1
      have HOW := Lib.hid how
      have HYL := Lib.hid hyl
      have HOLD := Lib.hid hold
      have hog := Lib.hid (own_ge how)
      have hol := Lib.hid (own_lt how)
      have hjt := hp.out.at_
      have hal2 := hal
      have hal2x := Lib.hid hal
      obtain ⟨an, HAN⟩ : ∃ an, Hid (acc.length = an) := ⟨_, rfl⟩
      rw [show acc.length = an from HAN.out] at how hal2
      have HOA := Lib.hid how
      have HLMw := Lib.hid (LM_eq hp.out)
      clear hmore hg hf hal how hyl hold hlj hone1
      obtain ⟨jt, HJT⟩ : ∃ n, Hid (ts.length = n) := ⟨_, rfl⟩
      rw [show ts.length = jt from HJT.out] at hjt lim
      go_wp2_with fail
      refine HM.out.mono ?_
      rintro e w1 ⟨rfl, q, rfl⟩
      have CO := Lib.hid (HONE.out j (wr.drewN q) (hp.out.drewN q) HMO.out)
      have K1 := Lib.hid ((Kept.refl (fun _ => False) wr).drewN q)
      have zq : (wr.drewN q).heap.size = wr.heap.size := rfl
      generalize wr.drewN q = w1 at *
      go_wp2_with fail
      refine CO.out.mono ?_
      rintro e w2 ⟨v2, rfl, k2, ⟨s, a1, b1, c1, rfl⟩, j2, er2, p2, ps2⟩
      obtain ⟨i0, hi0, hz0, hz1, hz2⟩ := info_parts info_listC
      have z2 := k2.size
      have hgg := hp.out.blk.lt
      have KG : Hid (∀ z, u5.ownBlock = some z → z ≠ g) := fun z e hz => by have := hog.out z e; omega
      have F2 := Lib.hid ((K1.out.mono (T := fun z => z = g) (fun _ _ h => h.elim)).then_ k2 (fun _ _ h => h))
      have o2 := Lib.hid (World.ownsRow.alloc (own_keptS HOA.out F2.out KG.out) (.cells #[.string s, .int .i64 a1, .int .i64 b1, .int .i64 c1] 116))
      have RD := Lib.hid (reads_new w2 116 #[.string s, .int .i64 a1, .int .i64 b1, .int .i64 c1] 4 rfl)
      have ONE : Hid (∀ u ∈ ([.string s, .int .i64 a1, .int .i64 b1, .int .i64 c1] : List Value), u.oneCell' = true) := by
        intro u hu
        simp only [List.mem_cons, List.not_mem_nil, or_false] at hu
        rcases hu with rfl | rfl | rfl | rfl <;> rfl
      have za : (w2.alloc (.cells #[.string s, .int .i64 a1, .int .i64 b1, .int .i64 c1] 116)).heap.size = w2.heap.size + 1 := by simp
      have P2 := Lib.hid p2
      have PS2 := Lib.hid ps2
      have K2 := Lib.hid k2
      clear p2 ps2 k2
      go_wp2_with (at_builtin; refine wpList_append_any _ rfl (.tmp 8) (.tmp 11) 51 rfl w.heap.size 116 i0 _ 4 40 Tryd.underlying51 hi0 hz0 hz1 hz2 rfl (by omega) _ an ys rfl o2.out _ _ 1 1 [.string s, .int .i64 a1, .int .i64 b1, .int .i64 c1] rfl RD.out ONE.out (by unfold maxLen; omega) (by omega) (by simp; omega) ?_; intro v8 w8 o8 g8 at8)
      have K8 : Kept (fun z => u5.ownBlock = some z) w2 w8 := ((Kept.refl (fun z => u5.ownBlock = some z) w2).alloc _).then_ (Kept.of_grown g8 (fun _ e => e)) (fun _ _ e => e)
      have ho8 := o8
      rw [← show acc.length = an from HAN.out] at ho8
      have KG8 : Hid (Kept (fun z => z = g) w w8) := (hk.out.then_ F2.out (fun _ _ e => e)).then_ K8 (fun z hz e => by have := hog.out z e; omega)
      have HP8 : Hid (Par w8 g A c m ts j2 dp er2) := HP.out.put P2.out.at_ (P2.out.blk.kept K8 (fun e => KG.out g e rfl)) KG8.out
      have HL8 : Hid (LJ 4 QV 116 w.heap.size ts (hasT [44]) one goal v8 w8 j2 er2) := by
        refine LJ.next (wr := wr) (w2 := w2) QV_kept HMO.out HEAT.out (by rw [HJT.out]; exact hjt) P2.out.at_ HF.out HG.out hal2x.out PS2.out (fun a ha => ?_) HYL.out rfl HON.out ONE.out (by rw [HJT.out]; exact lim) HOLD.out ho8 ((F2.out.mono (fun z _ e => .inl (by omega))).then_ K8 (fun z _ e => .inr e)) hol.out ?_ hwz (by omega)
        · exact QV_kept _ _ _ w2 w8 _ a K8 (fun k _ hk e => by have := hol.out k e; omega) (fun k hk h => ⟨by omega, hk⟩) (HR.out _ _ a s a1 b1 c1 ha)
        · rcases at8 with h | h
          · exact .inl h
          · exact .inr ⟨_, h, by omega⟩
      have HME : Hid (LM ts g w8 < LM ts g wr) := by
        show LM ts g w8 < LM ts g wr
        have h1 : LM ts g wr = 1 + (ts.length - j) := by
          have := HLMw.out
          simpa using this
        have h2 : j < ts.length := by rw [HJT.out]; exact hjt
        rw [LM_eq HP8.out, h1]
        split
        · rename_i he
          obtain ⟨a, ha, _⟩ := PS2.out.ok_iff he
          have := HEAT.out _ _ _ ha
          rw [List.length_drop, List.length_drop] at this
          omega
        · omega
      clear o8 g8 at8 K8 ho8
      go_wp2_with fail
      go_roundw
      case rel => exact ⟨j2, er2, HP8.out, KG8.out, HL8.out⟩
      case measure => exact HME.out

theorem info_listS : (Tryd.prog.info? 130).map (fun i => (i.zero, i.size, i.bytes)) = some (some (.agg #[.int .i64 0, .string ByteArray.empty, .slice none 0 0, .int .i64 0, .int .i64 0, .slice none 0 0, .slice none 0 0]), 7, 112) := by kernel_rfl
set_option maxHeartbeats 4000000 in
set_option maxRecDepth 100000 in
theorem listS_any (d g c : Nat) (A : Option Addr) (m : Nat → Nat) (ts : List Tk) (dp : Int) (one : List Tk → PS St) (R : Nat → World → St → Value → Prop) (heat : EatsP one)
    (hR : ∀ (b : Nat) (w : World) (a : St) (kind : Int) (nm : ByteArray) (A1 : Option Addr) (l1 c1 : Nat) (lo hi : Int) (A2 : Option Addr) (l2 c2 : Nat) (A3 : Option Addr) (l3 c3 : Nat), R b w a (.agg #[.int .i64 kind, .string nm, .slice A1 l1 c1, .int .i64 lo, .int .i64 hi, .slice A2 l2 c2, .slice A3 l3 c3]) → (QS d) (fun k => b ≤ k) w [.int .i64 kind, .string nm, .slice A1 l1 c1, .int .i64 lo, .int .i64 hi, .slice A2 l2 c2, .slice A3 l3 c3] a)
    (hone : ∀ (i : Nat) (w : World), Par w g A c m ts i dp 0 → beginsT (ts.drop i) = true → Calls Tryd.prog 80 #[.pointer (some ⟨g, 0, none⟩)] w (StepTo w g c A m ts dp (one (ts.drop i)) (R w.heap.size) ShSt))
    (i : Nat) (er : Int) (w : World) (h : Par w g A c m ts i dp er) :
    Calls Tryd.prog 78 #[.func (.func 79) #[.pointer (some ⟨g, 0, none⟩)] #[], .func (.func 80) #[.pointer (some ⟨g, 0, none⟩)] #[]] w
      (StepTo w g c A m ts dp (stP (fun r => listP beginsT one r.length [] r) ts i er) (IsRow 7 (QS d) w.heap.size) (ShR 7)) := by
  have HMORE := Lib.hid (fun (i : Nat) (er : Int) (w : World) (h : Par w g A c m ts i dp er) => begins_any g c A m ts i dp er w h)
  have HONE := Lib.hid hone
  have HR := Lib.hid hR
  have HEAT := Lib.hid heat
  have HP := Lib.hid h
  have lim := h.st.lim
  have hgl := h.blk.lt
  have HLJ := Lib.hid (LJ.start 7 (QS d) 130 w.heap.size ts beginsT one w i er)
  generalize stP (fun r => listP beginsT one r.length [] r) ts i er = goal at *
  clear h hone heat hR
  go_enter Tryd.func78, Tryd.ntmps78
  go_wp2_with fail
  go_loopw [5] (fun v wr => ∃ (j : Nat) (er' : Int), Hid (Par wr g A c m ts j dp er') ∧ Hid (Kept (fun z => z = g) w wr) ∧ Hid (LJ 7 (QS d) 130 w.heap.size ts beginsT one goal v wr j er')) (fun _ wr => LM ts g wr)
  case atStart => exact ⟨i, er, HP.out, Kept.refl _ w, HLJ.out⟩
  case round =>
    obtain ⟨j, er', hp, hk, hlj⟩ := hrel
    have HM := Lib.hid (HMORE.out j er' wr hp.out)
    have hwz := hk.out.size
    obtain ⟨b, hb⟩ : ∃ b, stB beginsT ts j er' = b := ⟨_, rfl⟩
    rw [hb] at HM
    have HB := Lib.hid hb
    clear hb
    cases b
    · go_wp2_with fail
      refine HM.out.mono ?_
      rintro e w1 ⟨rfl, q, rfl⟩
      have HD := Lib.hid (hlj.out.done (QS_kept d) (by have := hp.out.at_; omega) HB.out ((Kept.refl (fun _ => False) wr).drewN q))
      have HP9 := Lib.hid (hp.out.drewN q)
      have HK9 := Lib.hid (hk.out.drewN q)
      go_wp2_with fail
      go_ret
      exact ⟨_, rfl, HK9.out, HD.out.1, j, er', HP9.out, HD.out.2⟩
    · obtain ⟨rfl, hmore, acc, f, ho, hf, hg, hal⟩ := hlj.out.go HB.out
      have HG := Lib.hid hg
      have HF := Lib.hid hf
      have HMO := Lib.hid hmore
      obtain ⟨ys, how, hyl, hone1, hold⟩ := ho
      have HON := Lib.hid hone1
      have HOW := Lib.hid how
      have HYL := Lib.hid hyl
      have HOLD := Lib.hid hold
      have hog := Lib.hid (own_ge how)
      have hol := Lib.hid (own_lt how)
      have hjt := hp.out.at_
      have hal2 := hal
      have hal2x := Lib.hid hal
      obtain ⟨an, HAN⟩ : ∃ an, Hid (acc.length = an) := ⟨_, rfl⟩
      rw [show acc.length = an from HAN.out] at how hal2
      have HOA := Lib.hid how
      have HLMw := Lib.hid (LM_eq hp.out)
      clear hmore hg hf hal how hyl hold hlj hone1
      obtain ⟨jt, HJT⟩ : ∃ n, Hid (ts.length = n) := ⟨_, rfl⟩
      rw [show ts.length = jt from HJT.out] at hjt lim
      go_wp2_with fail
      refine HM.out.mono ?_
      rintro e w1 ⟨rfl, q, rfl⟩
      have CO := Lib.hid (HONE.out j (wr.drewN q) (hp.out.drewN q) HMO.out)
      have K1 := Lib.hid ((Kept.refl (fun _ => False) wr).drewN q)
      have zq : (wr.drewN q).heap.size = wr.heap.size := rfl
      generalize wr.drewN q = w1 at *
      go_wp2_with fail
      refine CO.out.mono ?_
      rintro e w2 ⟨v2, rfl, k2, ⟨kind, nm, A1, l1, c1, lo, hi, A2, l2, c2, A3, l3, c3, rfl⟩, j2, er2, p2, ps2⟩
      obtain ⟨i0, hi0, hz0, hz1, hz2⟩ := info_parts info_listS
      have z2 := k2.size
      have hgg := hp.out.blk.lt
      have KG : Hid (∀ z, u5.ownBlock = some z → z ≠ g) := fun z e hz => by have := hog.out z e; omega
      have F2 := Lib.hid ((K1.out.mono (T := fun z => z = g) (fun _ _ h => h.elim)).then_ k2 (fun _ _ h => h))
      have o2 := Lib.hid (World.ownsRow.alloc (own_keptS HOA.out F2.out KG.out) (.cells #[.int .i64 kind, .string nm, .slice A1 l1 c1, .int .i64 lo, .int .i64 hi, .slice A2 l2 c2, .slice A3 l3 c3] 130))
      have RD := Lib.hid (reads_new w2 130 #[.int .i64 kind, .string nm, .slice A1 l1 c1, .int .i64 lo, .int .i64 hi, .slice A2 l2 c2, .slice A3 l3 c3] 7 rfl)
      have ONE : Hid (∀ u ∈ ([.int .i64 kind, .string nm, .slice A1 l1 c1, .int .i64 lo, .int .i64 hi, .slice A2 l2 c2, .slice A3 l3 c3] : List Value), u.oneCell' = true) := by
        intro u hu
        simp only [List.mem_cons, List.not_mem_nil, or_false] at hu
        rcases hu with rfl | rfl | rfl | rfl | rfl | rfl | rfl <;> rfl
      have za : (w2.alloc (.cells #[.int .i64 kind, .string nm, .slice A1 l1 c1, .int .i64 lo, .int .i64 hi, .slice A2 l2 c2, .slice A3 l3 c3] 130)).heap.size = w2.heap.size + 1 := by simp
      have P2 := Lib.hid p2
      have PS2 := Lib.hid ps2
      have K2 := Lib.hid k2
      clear p2 ps2 k2
      go_wp2_with (at_builtin; refine wpList_append_any _ rfl (.tmp 8) (.tmp 11) 52 rfl w.heap.size 130 i0 _ 7 112 Tryd.underlying52 hi0 hz0 hz1 hz2 rfl (by omega) _ an ys rfl o2.out _ _ 1 1 [.int .i64 kind, .string nm, .slice A1 l1 c1, .int .i64 lo, .int .i64 hi, .slice A2 l2 c2, .slice A3 l3 c3] rfl RD.out ONE.out (by unfold maxLen; omega) (by omega) (by simp; omega) ?_; intro v8 w8 o8 g8 at8)
      have K8 : Kept (fun z => u5.ownBlock = some z) w2 w8 := ((Kept.refl (fun z => u5.ownBlock = some z) w2).alloc _).then_ (Kept.of_grown g8 (fun _ e => e)) (fun _ _ e => e)
      have ho8 := o8
      rw [← show acc.length = an from HAN.out] at ho8
      have KG8 : Hid (Kept (fun z => z = g) w w8) := (hk.out.then_ F2.out (fun _ _ e => e)).then_ K8 (fun z hz e => by have := hog.out z e; omega)
      have HP8 : Hid (Par w8 g A c m ts j2 dp er2) := HP.out.put P2.out.at_ (P2.out.blk.kept K8 (fun e => KG.out g e rfl)) KG8.out
      have HL8 : Hid (LJ 7 (QS d) 130 w.heap.size ts beginsT one goal v8 w8 j2 er2) := by
        refine LJ.next (wr := wr) (w2 := w2) (QS_kept d) HMO.out HEAT.out (by rw [HJT.out]; exact hjt) P2.out.at_ HF.out HG.out hal2x.out PS2.out (fun a ha => ?_) HYL.out rfl HON.out ONE.out (by rw [HJT.out]; exact lim) HOLD.out ho8 ((F2.out.mono (fun z _ e => .inl (by omega))).then_ K8 (fun z _ e => .inr e)) hol.out ?_ hwz (by omega)
        · exact (QS_kept d) _ _ _ w2 w8 _ a K8 (fun k _ hk e => by have := hol.out k e; omega) (fun k hk h => ⟨by omega, hk⟩) (HR.out _ _ a kind nm A1 l1 c1 lo hi A2 l2 c2 A3 l3 c3 ha)
        · rcases at8 with h | h
          · exact .inl h
          · exact .inr ⟨_, h, by omega⟩
      have HME : Hid (LM ts g w8 < LM ts g wr) := by
        show LM ts g w8 < LM ts g wr
        have h1 : LM ts g wr = 1 + (ts.length - j) := by
          have := HLMw.out
          simpa using this
        have h2 : j < ts.length := by rw [HJT.out]; exact hjt
        rw [LM_eq HP8.out, h1]
        split
        · rename_i he
          obtain ⟨a, ha, _⟩ := PS2.out.ok_iff he
          have := HEAT.out _ _ _ ha
          rw [List.length_drop, List.length_drop] at this
          omega
        · omega
      clear o8 g8 at8 K8 ho8
      go_wp2_with fail
      go_roundw
      case rel => exact ⟨j2, er2, HP8.out, KG8.out, HL8.out⟩
      case measure => exact HME.out
end Go.Proofs.YtdmlnoeneoomfaaDoor
