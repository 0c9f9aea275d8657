
/-
  The parser of programs: variables and parameters. (Printed by wip/tools/gens22.py.) The parser of programs: each step takes tokens; the statements of a statement, and of a part. The parser of programs: the parameters of play. Cells of one expression; an owned row of trees is a slice.
-/
import Derived.Test.YtdgekckedchjbaaDoorQG
import Derived.Test.YtdgekckedchjbaaDoorQD
import Derived.Test.YtdgekckedchjbaaDoorQB
import Derived.IntWalk
import Derived.Deep.RegionHeld3
namespace Go.Proofs.YtdgekckedchjbaaDoor
open Go.RowKit

theorem PS.bind_eta {α : Type} (p : PS α) : (p.bind fun a r => .ok a r) = p := by cases p <;> rfl
theorem parameter_st  (ts : List Tk) (i : Nat) (er : Int) : stP parameterP ts i er = (((stP nameP ts i er).bind fun a r => (signedP r).bind fun b r => .ok (a, b) r).bind fun a r => (signedP r).bind fun b r => .ok (a, b) r).bind fun x r => .ok ((fun x : (List UInt8 × Int) × Int => (⟨x.1.1, 0, x.1.2, x.2⟩ : Va)) x) r := by
  by_cases he : er = 0
  · unfold stP
    rw [if_pos he, if_pos he]
    unfold parameterP
    simp only [PS.bind_assoc, PS.ok_bind]
    all_goals rfl
  · unfold stP
    rw [if_neg he, if_neg he]
    rfl
theorem another_st  (ts : List Tk) (i : Nat) (er : Int) : stP anotherP ts i er = ((stP (mustP [44]) ts i er).bind fun a r => (parameterP r).bind fun b r => .ok (a, b) r).bind fun x r => .ok ((fun x : Unit × Va => x.2) x) r := by
  by_cases he : er = 0
  · unfold stP
    rw [if_pos he, if_pos he]
    unfold anotherP
    simp only [PS.bind_assoc, PS.ok_bind, PS.bind_eta]
    all_goals rfl
  · unfold stP
    rw [if_neg he, if_neg he]
    rfl
/-- A variable's size, where there is one. -/
def szP (r : List Tk) : PS Int := if hasT [91] r then (numP r.tail).bind fun n r => (mustP [93] r).bind fun _ r => .ok n r else .ok 0 r
def szT (r : List Tk) : PS Int := (numP r).bind fun n r => (mustP [93] r).bind fun _ r => .ok n r
theorem szT_st  (ts : List Tk) (i : Nat) (er : Int) : stP szT ts i er = ((stP numP ts i er).bind fun a r => ((mustP [93]) r).bind fun b r => .ok (a, b) r).bind fun x r => .ok ((fun x : Int × Unit => x.1) x) r := by
  by_cases he : er = 0
  · unfold stP
    rw [if_pos he, if_pos he]
    unfold szT
    simp only [PS.bind_assoc, PS.ok_bind]
    all_goals rfl
  · unfold stP
    rw [if_neg he, if_neg he]
    rfl
theorem variable_st  (ts : List Tk) (i : Nat) (er : Int) : stP variableP ts i er = (((((stP (mustP [118, 97, 114]) ts i er).bind fun a r => (nameP r).bind fun b r => .ok (a, b) r).bind fun a r => (szP r).bind fun b r => .ok (a, b) r).bind fun a r => (signedP r).bind fun b r => .ok (a, b) r).bind fun a r => (signedP r).bind fun b r => .ok (a, b) r).bind fun x r => .ok ((fun x : (((Unit × List UInt8) × Int) × Int) × Int => (⟨x.1.1.1.2, x.1.1.2, x.1.2, x.2⟩ : Va)) x) r := by
  by_cases he : er = 0
  · unfold stP
    rw [if_pos he, if_pos he]
    unfold variableP
    simp only [PS.bind_assoc, PS.ok_bind]
    all_goals rfl
  · unfold stP
    rw [if_neg he, if_neg he]
    rfl
end Go.Proofs.YtdgekckedchjbaaDoor
namespace Go.Proofs.YtdgekckedchjbaaDoor
open Go.RowKit

/-- It takes none back. -/
def LeP {α : Type} (f : List Tk → PS α) : Prop := ∀ r a r', f r = .ok a r' → r'.length ≤ r.length
theorem EatsP.le {α : Type} {f : List Tk → PS α} (h : EatsP f) : LeP f := fun r a r' e => Nat.le_of_lt (h r a r' e)
theorem LeP.ok {α : Type} (a : α) : LeP (fun r => PS.ok a r) := fun _ _ _ h => by
  injection h with _ h
  rw [h]
  exact Nat.le_refl _
theorem EatsP.bind {α β : Type} {p : List Tk → PS α} {f : α → List Tk → PS β} (hp : EatsP p) (hf : ∀ a, LeP (f a)) : EatsP fun r => (p r).bind fun a r => f a r := fun r b r' h => by
  simp only at h
  cases hq : p r with
  | ok a r1 =>
    rw [hq] at h
    exact Nat.lt_of_le_of_lt (hf a _ _ _ h) (hp _ _ _ hq)
  | bad r1 e =>
    rw [hq] at h
    cases h
theorem LeP.bind {α β : Type} {p : List Tk → PS α} {f : α → List Tk → PS β} (hp : LeP p) (hf : ∀ a, LeP (f a)) : LeP fun r => (p r).bind fun a r => f a r := fun r b r' h => by
  simp only at h
  cases hq : p r with
  | ok a r1 =>
    rw [hq] at h
    exact Nat.le_trans (hf a _ _ _ h) (hp _ _ _ hq)
  | bad r1 e =>
    rw [hq] at h
    cases h
theorem LeP.ite {α : Type} (c : List Tk → Prop) [∀ r, Decidable (c r)] {f g : List Tk → PS α} (hf : LeP f) (hg : LeP g) : LeP fun r => if c r then f r else g r := fun r a r' h => by
  simp only at h
  split at h
  · exact hf _ _ _ h
  · exact hg _ _ _ h
theorem EatsP.ite {α : Type} (c : List Tk → Prop) [∀ r, Decidable (c r)] {f g : List Tk → PS α} (hf : EatsP f) (hg : EatsP g) : EatsP fun r => if c r then f r else g r := fun r a r' h => by
  simp only at h
  split at h
  · exact hf _ _ _ h
  · exact hg _ _ _ h
theorem LeP.tail {α : Type} {f : List Tk → PS α} (hf : LeP f) : LeP fun r => f r.tail := fun r a r' h => Nat.le_trans (hf _ _ _ h) (by simp)
theorem EatsP.tail {α : Type} {f : List Tk → PS α} (hf : EatsP f) : EatsP fun r => f r.tail := fun r a r' h => Nat.lt_of_lt_of_le (hf _ _ _ h) (by simp)
theorem must_eats (x : List UInt8) : EatsP (mustP x) := fun r a r' h => by
  unfold mustP at h
  split at h
  · rename_i hx
    injection h with _ h
    subst h
    cases r with
    | nil => simp [hasT] at hx
    | cons t r => simp
  · cases h
theorem take_eats (k : Int) : EatsP (takeP k) := fun r a r' h => by
  cases r with
  | nil => cases h
  | cons t r =>
    simp only [takeP] at h
    split at h
    · injection h with _ h
      subst h
      simp
    · cases h
theorem name_eats : EatsP nameP := EatsP.bind (take_eats 1) fun _ => LeP.ok _
theorem word_eats : EatsP wordP := EatsP.bind (take_eats 3) fun _ => LeP.ok _
theorem num_eats : EatsP numP := EatsP.bind (take_eats 2) fun _ => LeP.ok _
theorem signed_eats : EatsP signedP := EatsP.ite (fun r => hasT [45] r = true) (EatsP.tail (f := fun r => (numP r).bind fun n r => PS.ok (IntKind.i64.wrap (-n)) r) (EatsP.bind num_eats fun _ => LeP.ok _)) num_eats
theorem expr_eats : EatsP exprP := fun r a r' h => by
  unfold exprP at h
  cases hj : joinL (plainD 16) 5 r with
  | ok x r1 =>
    rw [hj] at h
    injection h with _ h
    subst h
    exact joinL_eats (plainD_eats 16) 5 _ _ _ hj
  | bad r1 e =>
    rw [hj] at h
    cases h
theorem list_le {α : Type} {more : List Tk → Bool} {one : List Tk → PS α} (ho : LeP one) : ∀ (f : Nat) (acc : List α), LeP (listP more one f acc)
  | 0, acc => LeP.ok acc
  | f + 1, acc => fun r a r' h => by
    simp only [listP] at h
    split at h
    · cases hq : one r with
      | ok b r1 =>
        rw [hq] at h
        exact Nat.le_trans (list_le ho f _ _ _ _ h) (ho _ _ _ hq)
      | bad r1 e =>
        rw [hq] at h
        cases h
    · injection h with _ h
      rw [h]
      exact Nat.le_refl _
theorem listL_le {α : Type} {more : List Tk → Bool} {one : List Tk → PS α} (ho : LeP one) (acc : List α) : LeP fun r => listP more one r.length acc r := fun _ _ _ h => list_le ho _ _ _ _ _ h
theorem assign_eats : EatsP assignP := EatsP.bind name_eats fun nm => LeP.ite (fun r => hasT [91] r = true)
  (LeP.tail (f := fun r => (exprP r).bind fun e r => (mustP [93] r).bind fun _ r => (mustP [61] r).bind fun _ r => (exprP r).bind fun e2 r => PS.ok (St.mk 1 nm [e, e2] 0 0 [] []) r)
    (LeP.bind expr_eats.le fun _ => LeP.bind (must_eats _).le fun _ => LeP.bind (must_eats _).le fun _ => LeP.bind expr_eats.le fun _ => LeP.ok _))
  (LeP.bind (must_eats _).le fun _ => LeP.bind expr_eats.le fun _ => LeP.ok _)
theorem LeP.if_ {α : Type} (c : Prop) [Decidable c] {f g : List Tk → PS α} (hf : LeP f) (hg : LeP g) : LeP fun r => if c then f r else g r := LeP.ite (fun _ => c) hf hg
theorem stmt_eats : ∀ d, EatsP (stmtD d)
  | 0 => fun r a r' h => by cases h
  | d + 1 => by
    have ih : LeP fun r => listP beginsT (stmtD d) r.length [] r := listL_le (stmt_eats d).le []
    refine EatsP.ite (fun r => kindT 1 r = true) assign_eats (EatsP.bind word_eats fun _ => LeP.if_ _
      (LeP.bind expr_eats.le fun _ => LeP.bind (must_eats _).le fun _ => LeP.bind ih fun _ => LeP.bind (LeP.ite (fun r => hasT _ r = true) (LeP.tail (f := fun r => listP beginsT (stmtD d) r.length [] r) ih) (LeP.ok [])) fun _ => LeP.bind (must_eats _).le fun _ => LeP.ok _)
      (LeP.if_ _ (LeP.bind name_eats.le fun _ => LeP.bind signed_eats.le fun _ => LeP.bind signed_eats.le fun _ => LeP.bind (must_eats _).le fun _ => LeP.bind ih fun _ => LeP.bind (must_eats _).le fun _ => LeP.ok _)
      (LeP.if_ _ (LeP.ok _) (LeP.if_ _ (LeP.bind name_eats.le fun _ => LeP.bind num_eats.le fun _ => LeP.ok _)
      (LeP.if_ _ (LeP.bind expr_eats.le fun _ => LeP.ok _) (LeP.if_ _ (LeP.ok _) (LeP.if_ _ (LeP.bind expr_eats.le fun _ => LeP.bind expr_eats.le fun _ => LeP.ok _) (LeP.bind expr_eats.le fun _ => LeP.ok _))))))))
theorem parameter_eats : EatsP parameterP := EatsP.bind name_eats fun _ => LeP.bind signed_eats.le fun _ => LeP.bind signed_eats.le fun _ => LeP.ok _
theorem another_eats : EatsP anotherP := EatsP.bind (must_eats _) fun _ => parameter_eats.le
theorem variable_eats : EatsP variableP := EatsP.bind (must_eats _) fun _ => LeP.bind name_eats.le fun _ =>
  LeP.bind (LeP.ite (fun r => hasT [91] r = true) (LeP.tail (f := fun r => (numP r).bind fun n r => (mustP [93] r).bind fun _ r => PS.ok n r) (LeP.bind num_eats.le fun _ => LeP.bind (must_eats _).le fun _ => LeP.ok _)) (LeP.ok 0)) fun _ =>
  LeP.bind signed_eats.le fun _ => LeP.bind signed_eats.le fun _ => LeP.ok _

def innerP (d : Nat) (r : List Tk) : PS (List St) := listP beginsT (stmtD d) r.length [] r
theorem Par.depth {w w' : World} {g c : Nat} {A : Option Addr} {m : Nat → Nat} {ts : List Tk} {i : Nat} {dp er : Int} (h : Par w g A c m ts i dp er) (d2 : Int) {i2 : Nat} {er2 d1 : Int} (h2 : Par w' g A c m ts i2 d1 er2) (hk : Kept (fun z => z = g) w w') :
    Par (w'.setCell ⟨g, 2, none⟩ (.int .i64 d2)) g A c m ts i2 d2 er2 ∧ Kept (fun z => z = g) w (w'.setCell ⟨g, 2, none⟩ (.int .i64 d2)) := by
  have k := hk.setCell (p := ⟨g, 2, none⟩) (fun _ => rfl) (.int .i64 d2)
  exact ⟨⟨h.st.kept k (fun _ _ e => e), h2.blk.set_ 2 _, h2.at_⟩, k⟩
theorem part_st (ts : List Tk) (i : Nat) (er : Int) : stP partP ts i er = ((stP (innerP 16) ts i er).bind fun a r => (mustP [101, 110, 100] r).bind fun b r => .ok (a, b) r).bind fun x r => .ok ((fun x : List St × Unit => x.1) x) r := by
  by_cases he : er = 0
  · unfold stP
    rw [if_pos he, if_pos he]
    unfold partP
    simp only [PS.bind_assoc, PS.ok_bind]
    rfl
  · unfold stP
    rw [if_neg he, if_neg he]
    rfl
end Go.Proofs.YtdgekckedchjbaaDoor
namespace Go.Proofs.YtdgekckedchjbaaDoor
open Go.RowKit

theorem listP_acc {α : Type} (more : List Tk → Bool) (one : List Tk → PS α) : ∀ (f : Nat) (acc : List α) (r : List Tk), listP more one f acc r = (listP more one f [] r).bind fun l r => .ok (acc ++ l) r
  | 0, acc, r => by simp [listP, PS.bind]
  | f + 1, acc, r => by
    simp only [listP]
    split
    · cases one r with
      | ok a r1 =>
        simp only [PS.ok_bind]
        rw [listP_acc more one f (acc ++ [a]), listP_acc more one f ([] ++ [a]), PS.bind_assoc]
        simp [PS.ok_bind]
      | bad r1 e => rfl
    · simp [PS.bind]
def moreC (r : List Tk) : PS (List Va) := listP (hasT [44]) anotherP r.length [] r
def paramsT (r : List Tk) : PS (List Va) := (parameterP r).bind fun v r => (moreC r).bind fun l r => .ok (v :: l) r
theorem paramsP_T (r : List Tk) : paramsP r = if kindT 1 r = false then .ok [] r else if behindT r = false then .ok [] r else paramsT r := by
  unfold paramsP paramsT moreC
  congr 2
  congr 1
  funext v r
  rw [listP_acc]
  rfl
theorem paramsT_st (ts : List Tk) (i : Nat) (er : Int) : stP paramsT ts i er = ((stP parameterP ts i er).bind fun a r => (moreC r).bind fun b r => .ok (a, b) r).bind fun x r => .ok ((fun x : Va × List Va => x.1 :: x.2) x) r := by
  by_cases he : er = 0
  · unfold stP
    rw [if_pos he, if_pos he]
    unfold paramsT
    simp only [PS.bind_assoc, PS.ok_bind]
  · unfold stP
    rw [if_neg he, if_neg he]
    rfl
theorem behind_B {ts : List Tk} {i : Nat} {t2 : Tk} (ht2 : ts[i + 1]? = some t2) : behindT (ts.drop i) = (decide (t2.kind = 2) || decide (t2.text = [45])) := by
  unfold behindT
  rw [List.tail_drop, drop_tok ht2]
theorem own_one {w : World} {b : Nat} {t : TypeId} {cs : List Value} {s base : Nat} (h : Blk w b t (List.toArray cs)) (hs : cs.length = s) (hb : base ≤ b) : w.ownsRow base t s (.slice (some ⟨b, 0, none⟩) 1 1) 1 cs := by
  refine ⟨by simp [hs], .inr ⟨b, 1, List.toArray cs, rfl, hb, h, ?_⟩⟩
  refine ⟨Nat.le_refl _, by unfold maxLen; omega, by simp [hs], by simp [← hs]⟩
end Go.Proofs.YtdgekckedchjbaaDoor
namespace Go.Proofs.YtdgekckedchjbaaDoor
open Go.RowKit

theorem info_rexpr : (Tryd.prog.info? 24).map (fun i => (i.zero, i.size, i.bytes)) = some (some (.agg #[.int .i64 0, .int .i64 0, .string ByteArray.empty, .slice none 0 0]), 4, 56) := by kernel_rfl
theorem reads4 (W : World) (t : TypeId) (a b c d : Value) : Reads (W.alloc (.cells #[a, b, c, d] t)) (W.heap.size + 1) 4 (some ⟨W.heap.size, 0, none⟩) 1 [a, b, c, d] := by
  refine ⟨rfl, fun _ => ⟨_, rfl, by simp, fun j u hu => ?_⟩⟩
  rw [Addr.add_lit, Nat.zero_add, (Blk.new W t #[a, b, c, d]).cell j]
  simpa using hu
theorem one4 (op N : Int) (nm : ByteArray) (A : Option Addr) (l c : Nat) : ∀ u ∈ [Value.int .i64 op, .int .i64 N, .string nm, .slice A l c], u.oneCell' = true := by
  intro u hu
  simp only [List.mem_cons, List.not_mem_nil, or_false] at hu
  rcases hu with rfl | rfl | rfl | rfl <;> rfl
theorem OwnG.slice {w : World} {base : Nat} {t : TypeId} {M n : Nat} {v : Value} {l : List Gx} (h : OwnG w base t M n v l) : ∃ A c, v = .slice A l.length c := by
  obtain ⟨ys, h1, _, _⟩ := h
  obtain ⟨A, c, hv, _⟩ := own_is h1
  exact ⟨A, c, hv⟩
end Go.Proofs.YtdgekckedchjbaaDoor
