
/-
  Programs: their trees, and how tokens are parsed. No program is named here.
-/
import Derived.Test.YtdmlnoeneoomfaaDoorP1
namespace Go.Proofs.YtdmlnoeneoomfaaDoor

/-- What a step of the parser gives, and what is left; or where it is wrong, and how. -/
inductive PS (α : Type) where
  | ok (a : α) (r : List Tk)
  | bad (r : List Tk) (err : Int)
def PS.bind {α β : Type} (p : PS α) (f : α → List Tk → PS β) : PS β := match p with
  | .ok a r => f a r
  | .bad r e => .bad r e
def PS.map {α : Type} (f : Tk → Tk) : PS α → PS α
  | .ok a r => .ok a (r.map f)
  | .bad r e => .bad (r.map f) e
def PR.ps : PR → PS Ex
  | .ok e r => .ok e r
  | .bad r e => .bad r e
/-- A statement. -/
inductive St where
  | mk (kind : Int) (nm : List UInt8) (E : List Ex) (lo hi : Int) (L El : List St)
/-- A variable. -/
structure Va where
  nm : List UInt8
  size : Int
  lo : Int
  hi : Int
/-- A program. -/
structure Pg where
  nm : List UInt8
  seats : Int
  stakes : List Int
  vars : List Va
  start : List St
  turn : List St
  params : List Va
  play : List St
  silent : List UInt8
  quiet : List St
  pays : List St
def kindT (k : Int) : List Tk → Bool
  | [] => false
  | t :: _ => decide (t.kind = k)
def mustP (x : List UInt8) (r : List Tk) : PS Unit := if hasT x r then .ok () r.tail else .bad r (wrongT r)
def takeP (k : Int) : List Tk → PS Tk
  | [] => .bad [] 4
  | t :: r => if t.kind = k then .ok t r else .bad (t :: r) (wrongT (t :: r))
def nameP (r : List Tk) : PS (List UInt8) := (takeP 1 r).bind fun t r => .ok t.text r
def wordP (r : List Tk) : PS (List UInt8) := (takeP 3 r).bind fun t r => .ok t.text r
def numP (r : List Tk) : PS Int := (takeP 2 r).bind fun t r => .ok t.n r
def signedP (r : List Tk) : PS Int := if hasT [45] r then (numP r.tail).bind fun n r => .ok (IntKind.i64.wrap (-n)) r else numP r
def exprP (r : List Tk) : PS Ex := (joinL (plainD 16) 5 r).ps
/-- As many as there are. -/
def listP {α : Type} (more : List Tk → Bool) (one : List Tk → PS α) : Nat → List α → List Tk → PS (List α)
  | 0, acc, r => .ok acc r
  | f + 1, acc, r => if more r then (one r).bind fun a r => listP more one f (acc ++ [a]) r else .ok acc r
def beginW : List (List UInt8) := [[105, 102], [102, 111, 114], [114, 101, 102, 117, 115, 101], [114, 111, 108, 108], [115, 101, 97, 116], [111, 118, 101, 114], [112, 97, 121], [114, 101, 115, 116]]
def beginsT : List Tk → Bool
  | [] => false
  | t :: _ => decide (t.kind = 1) || (decide (t.kind = 3) && decide (t.text ∈ beginW))
def assignP (r : List Tk) : PS St :=
  (nameP r).bind fun nm r =>
  if hasT [91] r then
    (exprP r.tail).bind fun e r => (mustP [93] r).bind fun _ r => (mustP [61] r).bind fun _ r => (exprP r).bind fun e2 r => .ok (.mk 1 nm [e, e2] 0 0 [] []) r
  else (mustP [61] r).bind fun _ r => (exprP r).bind fun e r => .ok (.mk 0 nm [e] 0 0 [] []) r
/-- A statement, within which there may stand d more. -/
def stmtD : Nat → List Tk → PS St
  | 0, r => .bad r 25
  | d + 1, r =>
    if kindT 1 r then assignP r
    else (wordP r).bind fun x r =>
      if x = [105, 102] then
        (exprP r).bind fun e r => (mustP [116, 104, 101, 110] r).bind fun _ r => (listP beginsT (stmtD d) r.length [] r).bind fun l r =>
        (if hasT [101, 108, 115, 101] r then listP beginsT (stmtD d) r.tail.length [] r.tail else .ok [] r).bind fun el r => (mustP [101, 110, 100] r).bind fun _ r => .ok (.mk 2 [] [e] 0 0 l el) r
      else if x = [102, 111, 114] then
        (nameP r).bind fun nm r => (signedP r).bind fun lo r => (signedP r).bind fun hi r => (mustP [100, 111] r).bind fun _ r =>
        (listP beginsT (stmtD d) r.length [] r).bind fun l r => (mustP [101, 110, 100] r).bind fun _ r => .ok (.mk 3 nm [] lo hi l []) r
      else if x = [114, 101, 102, 117, 115, 101] then .ok (.mk 4 [] [] 0 0 [] []) r
      else if x = [114, 111, 108, 108] then (nameP r).bind fun nm r => (numP r).bind fun n r => .ok (.mk 5 nm [] n 0 [] []) r
      else if x = [115, 101, 97, 116] then (exprP r).bind fun e r => .ok (.mk 6 [] [e] 0 0 [] []) r
      else if x = [111, 118, 101, 114] then .ok (.mk 7 [] [] 0 0 [] []) r
      else if x = [112, 97, 121] then (exprP r).bind fun e r => (exprP r).bind fun e2 r => .ok (.mk 8 [] [e, e2] 0 0 [] []) r
      else (exprP r).bind fun e r => .ok (.mk 9 [] [e] 0 0 [] []) r
def partP (r : List Tk) : PS (List St) := (listP beginsT (stmtD 16) r.length [] r).bind fun l r => (mustP [101, 110, 100] r).bind fun _ r => .ok l r
def variableP (r : List Tk) : PS Va :=
  (mustP [118, 97, 114] r).bind fun _ r => (nameP r).bind fun nm r =>
  (if hasT [91] r then (numP r.tail).bind fun n r => (mustP [93] r).bind fun _ r => .ok n r else .ok 0 r).bind fun sz r =>
  (signedP r).bind fun lo r => (signedP r).bind fun hi r => .ok ⟨nm, sz, lo, hi⟩ r
def parameterP (r : List Tk) : PS Va := (nameP r).bind fun nm r => (signedP r).bind fun lo r => (signedP r).bind fun hi r => .ok ⟨nm, 0, lo, hi⟩ r
def anotherP (r : List Tk) : PS Va := (mustP [44] r).bind fun _ r => parameterP r
/-- Behind the next token there stands a number, or a sign. -/
def behindT (r : List Tk) : Bool := match r.tail with
  | [] => false
  | t :: _ => decide (t.kind = 2) || decide (t.text = [45])
def paramsP (r : List Tk) : PS (List Va) :=
  if kindT 1 r = false then .ok [] r else if behindT r = false then .ok [] r
  else (parameterP r).bind fun v r => listP (hasT [44]) anotherP r.length [v] r
def progP (r : List Tk) : PS Pg :=
  (mustP [103, 97, 109, 101] r).bind fun _ r => (nameP r).bind fun nm r => (mustP [115, 101, 97, 116, 115] r).bind fun _ r => (numP r).bind fun seats r =>
  (mustP [115, 116, 97, 107, 101] r).bind fun _ r => (numP r).bind fun s0 r => (listP (kindT 2) numP r.length [] r).bind fun ss r =>
  (listP (hasT [118, 97, 114]) variableP r.length [] r).bind fun vars r => (mustP [115, 116, 97, 114, 116] r).bind fun _ r => (partP r).bind fun start r =>
  (mustP [116, 117, 114, 110] r).bind fun _ r => (partP r).bind fun turn r => (mustP [112, 108, 97, 121] r).bind fun _ r => (paramsP r).bind fun params r => (partP r).bind fun play r =>
  (mustP [115, 105, 108, 101, 110, 116] r).bind fun _ r => (nameP r).bind fun silent r => (partP r).bind fun quiet r => (mustP [112, 97, 121] r).bind fun _ r => (partP r).bind fun pays r =>
  .ok ⟨nm, seats, s0 :: ss, vars, start, turn, params, play, silent, quiet, pays⟩ r

/-- Places play no part. -/
def Zi {α : Type} (f : List Tk → PS α) : Prop := ∀ r, f (r.map Tk.z) = (f r).map Tk.z
theorem kindT_z (k : Int) (r : List Tk) : kindT k (r.map Tk.z) = kindT k r := by cases r <;> rfl
theorem beginsT_z (r : List Tk) : beginsT (r.map Tk.z) = beginsT r := by cases r <;> rfl
theorem behindT_z (r : List Tk) : behindT (r.map Tk.z) = behindT r := by
  unfold behindT
  rw [← List.map_tail]
  cases r.tail <;> rfl
theorem PS.bind_z {α β : Type} (p : PS α) (f g : α → List Tk → PS β) (h : ∀ a r, f a (r.map Tk.z) = (g a r).map Tk.z) : (p.map Tk.z).bind f = (p.bind g).map Tk.z := by
  cases p with
  | ok a r => exact h a r
  | bad r e => rfl
theorem mustP_z (x : List UInt8) : Zi (mustP x) := fun r => by
  unfold mustP
  rw [hasT_z, wrongT_z]
  split
  · simp [PS.map, List.map_tail]
  · rfl
theorem Zi.bind {α β : Type} {p : List Tk → PS α} {f : α → List Tk → PS β} (hp : Zi p) (hf : ∀ a, Zi (f a)) : Zi fun r => (p r).bind (f · ·) := fun r => by
  show ((p (r.map Tk.z)).bind fun a r => f a r) = ((p r).bind fun a r => f a r).map Tk.z
  rw [hp r]
  exact PS.bind_z _ _ _ (fun a r => hf a r)
theorem Zi.ok {α : Type} (a : α) : Zi (fun r => PS.ok a r) := fun _ => rfl
theorem exprP_z : Zi exprP := fun r => by
  unfold exprP
  rw [joinL_z (plainD_z 16)]
  cases joinL (plainD 16) 5 r <;> rfl
theorem tokP_z {α : Type} (k : Int) (f : Tk → α) (hf : ∀ t, f t.z = f t) : Zi fun r => (takeP k r).bind fun t r => PS.ok (f t) r := fun r => by
  cases r with
  | nil => rfl
  | cons t r =>
    show ((takeP k (t.z :: r.map Tk.z)).bind fun t r => PS.ok (f t) r) = ((takeP k (t :: r)).bind fun t r => PS.ok (f t) r).map Tk.z
    have h1 : t.z.kind = t.kind := rfl
    have h2 := wrongT_z (t :: r)
    simp only [List.map_cons] at h2
    simp only [takeP, h1, h2]
    split
    · simp only [PS.bind, PS.map, hf]
    · rfl
theorem nameP_z : Zi nameP := tokP_z 1 Tk.text (fun _ => rfl)
theorem wordP_z : Zi wordP := tokP_z 3 Tk.text (fun _ => rfl)
theorem numP_z : Zi numP := tokP_z 2 Tk.n (fun _ => rfl)
theorem Zi.ite {α : Type} {c : List Tk → Bool} (hc : ∀ r, c (r.map Tk.z) = c r) {f g : List Tk → PS α} (hf : Zi f) (hg : Zi g) : Zi fun r => if c r then f r else g r := fun r => by
  show (if c (r.map Tk.z) then f (r.map Tk.z) else g (r.map Tk.z)) = (if c r then f r else g r).map Tk.z
  rw [hc, hf r, hg r]
  split <;> rfl
theorem Zi.tail {α : Type} {f : List Tk → PS α} (hf : Zi f) : Zi fun r => f r.tail := fun r => by
  show f (r.map Tk.z).tail = (f r.tail).map Tk.z
  rw [← List.map_tail]
  exact hf _
theorem signedP_z : Zi signedP := Zi.ite (hasT_z [45]) (Zi.tail (f := fun r => (numP r).bind fun n r => PS.ok (IntKind.i64.wrap (-n)) r) (Zi.bind numP_z (fun n => Zi.ok (IntKind.i64.wrap (-n))))) numP_z
theorem listP_z {α : Type} {more : List Tk → Bool} (hm : ∀ r, more (r.map Tk.z) = more r) {one : List Tk → PS α} (ho : Zi one) : ∀ (f : Nat) (acc : List α), Zi (listP more one f acc)
  | 0, acc => Zi.ok acc
  | f + 1, acc => fun r => by
    simp only [listP]
    rw [hm, ho r]
    split
    · exact PS.bind_z _ _ _ (fun a r => listP_z hm ho f _ r)
    · rfl
theorem listL_z {α : Type} {more : List Tk → Bool} (hm : ∀ r, more (r.map Tk.z) = more r) {one : List Tk → PS α} (ho : Zi one) (acc : List α) : Zi fun r => listP more one r.length acc r := fun r => by
  show listP more one (r.map Tk.z).length acc (r.map Tk.z) = _
  rw [List.length_map]
  exact listP_z hm ho _ _ r
theorem assignP_z : Zi assignP := Zi.bind nameP_z fun nm => Zi.ite (hasT_z [91])
  (Zi.tail (f := fun r => (exprP r).bind fun e r => (mustP [93] r).bind fun _ r => (mustP [61] r).bind fun _ r => (exprP r).bind fun e2 r => PS.ok (St.mk 1 nm [e, e2] 0 0 [] []) r)
    (Zi.bind exprP_z fun _ => Zi.bind (mustP_z _) fun _ => Zi.bind (mustP_z _) fun _ => Zi.bind exprP_z fun _ => Zi.ok _))
  (Zi.bind (mustP_z _) fun _ => Zi.bind exprP_z fun _ => Zi.ok _)
theorem Zi.if_ {α : Type} (c : Prop) [Decidable c] {f g : List Tk → PS α} (hf : Zi f) (hg : Zi g) : Zi fun r => if c then f r else g r := fun r => by
  show (if c then f (r.map Tk.z) else g (r.map Tk.z)) = (if c then f r else g r).map Tk.z
  split
  · exact hf r
  · exact hg r
theorem stmtD_z : ∀ d, Zi (stmtD d)
  | 0 => fun _ => rfl
  | d + 1 => by
    have ih := listL_z beginsT_z (stmtD_z d) []
    exact Zi.ite (kindT_z 1) assignP_z (Zi.bind wordP_z fun _ => Zi.if_ _
      (Zi.bind exprP_z fun _ => Zi.bind (mustP_z _) fun _ => Zi.bind ih fun _ => Zi.bind (Zi.ite (hasT_z _) (Zi.tail (f := fun r => listP beginsT (stmtD d) r.length [] r) ih) (Zi.ok [])) fun _ => Zi.bind (mustP_z _) fun _ => Zi.ok _)
      (Zi.if_ _ (Zi.bind nameP_z fun _ => Zi.bind signedP_z fun _ => Zi.bind signedP_z fun _ => Zi.bind (mustP_z _) fun _ => Zi.bind ih fun _ => Zi.bind (mustP_z _) fun _ => Zi.ok _)
      (Zi.if_ _ (Zi.ok _) (Zi.if_ _ (Zi.bind nameP_z fun _ => Zi.bind numP_z fun _ => Zi.ok _)
      (Zi.if_ _ (Zi.bind exprP_z fun _ => Zi.ok _) (Zi.if_ _ (Zi.ok _) (Zi.if_ _ (Zi.bind exprP_z fun _ => Zi.bind exprP_z fun _ => Zi.ok _) (Zi.bind exprP_z fun _ => Zi.ok _))))))))
theorem partP_z : Zi partP := Zi.bind (listL_z beginsT_z (stmtD_z 16) []) fun _ => Zi.bind (mustP_z _) fun _ => Zi.ok _
theorem variableP_z : Zi variableP := Zi.bind (mustP_z _) fun _ => Zi.bind nameP_z fun _ =>
  Zi.bind (Zi.ite (hasT_z [91]) (Zi.tail (f := fun r => (numP r).bind fun n r => (mustP [93] r).bind fun _ r => PS.ok n r) (Zi.bind numP_z fun _ => Zi.bind (mustP_z _) fun _ => Zi.ok _)) (Zi.ok 0)) fun _ =>
  Zi.bind signedP_z fun _ => Zi.bind signedP_z fun _ => Zi.ok _
theorem parameterP_z : Zi parameterP := Zi.bind nameP_z fun _ => Zi.bind signedP_z fun _ => Zi.bind signedP_z fun _ => Zi.ok _
theorem anotherP_z : Zi anotherP := Zi.bind (mustP_z _) fun _ => parameterP_z
theorem paramsP_z : Zi paramsP := fun r => by
  unfold paramsP
  rw [kindT_z, behindT_z]
  split
  · rfl
  · split
    · rfl
    · rw [parameterP_z r]
      exact PS.bind_z _ _ _ (fun v r => by rw [List.length_map]; exact listP_z (hasT_z [44]) anotherP_z _ _ r)
theorem progP_z : Zi progP := Zi.bind (mustP_z _) fun _ => Zi.bind nameP_z fun _ => Zi.bind (mustP_z _) fun _ => Zi.bind numP_z fun _ => Zi.bind (mustP_z _) fun _ => Zi.bind numP_z fun _ => Zi.bind (listL_z (kindT_z 2) numP_z []) fun _ =>
  Zi.bind (listL_z (hasT_z _) variableP_z []) fun _ => Zi.bind (mustP_z _) fun _ => Zi.bind partP_z fun _ => Zi.bind (mustP_z _) fun _ => Zi.bind partP_z fun _ => Zi.bind (mustP_z _) fun _ => Zi.bind paramsP_z fun _ => Zi.bind partP_z fun _ =>
  Zi.bind (mustP_z _) fun _ => Zi.bind nameP_z fun _ => Zi.bind partP_z fun _ => Zi.bind (mustP_z _) fun _ => Zi.bind partP_z fun _ => Zi.ok _
end Go.Proofs.YtdmlnoeneoomfaaDoor
