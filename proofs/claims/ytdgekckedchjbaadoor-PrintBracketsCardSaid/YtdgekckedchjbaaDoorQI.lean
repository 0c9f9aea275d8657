
/-
  The parser of programs: a statement that begins with a name. (Printed by wip/tools/gens25.py.) The parser of programs: what stands behind an if; a statement. (Printed by wip/tools/gens26.py.)
-/
import Derived.Test.YtdgekckedchjbaaDoorQH
import Derived.Deep.AppendLies
namespace Go.Proofs.YtdgekckedchjbaaDoor
open Go.RowKit

theorem info_pexpr : (Tryd.prog.info? 40).map (fun i => (i.zero, i.size, i.bytes)) = some (some (.agg #[.int .i64 0, .int .i64 0, .string ByteArray.empty, .slice none 0 0]), 4, 56) := by kernel_rfl
def putT (r : List Tk) : PS (Int × List Ex) := (exprP r).bind fun e r => (mustP [93] r).bind fun _ r => (mustP [61] r).bind fun _ r => (exprP r).bind fun e2 r => .ok (1, [e, e2]) r
def setT (r : List Tk) : PS (Int × List Ex) := (mustP [61] r).bind fun _ r => (exprP r).bind fun e r => .ok (0, [e]) r
def bodyP (r : List Tk) : PS (Int × List Ex) := if hasT [91] r then putT r.tail else setT r
theorem assign_bind (nm : List UInt8) (r : List Tk) : ((bodyP r).bind fun b r => PS.ok (St.mk b.1 nm b.2 0 0 [] []) r) = if hasT [91] r then
    (exprP r.tail).bind fun e r => (mustP [93] r).bind fun _ r => (mustP [61] r).bind fun _ r => (exprP r).bind fun e2 r => .ok (.mk 1 nm [e, e2] 0 0 [] []) r
  else (mustP [61] r).bind fun _ r => (exprP r).bind fun e r => .ok (.mk 0 nm [e] 0 0 [] []) r := by
  unfold bodyP putT setT
  split <;> simp only [PS.bind_assoc, PS.ok_bind]
theorem assign_st (ts : List Tk) (i : Nat) (er : Int) : stP assignP ts i er = ((stP nameP ts i er).bind fun a r => (bodyP r).bind fun b r => .ok (a, b) r).bind fun x r => .ok ((fun x : List UInt8 × (Int × List Ex) => St.mk x.2.1 x.1 x.2.2 0 0 [] []) x) r := by
  by_cases he : er = 0
  · unfold stP
    rw [if_pos he, if_pos he]
    unfold assignP
    simp only [PS.bind_assoc, PS.ok_bind, assign_bind]
  · unfold stP
    rw [if_neg he, if_neg he]
    rfl
/-- What append(y.f, expression()) leaves. -/
def AppTo (W : World) (g c : Nat) (A : Option Addr) (m : Nat → Nat) (ts : List Tk) (dp : Int) (p : PS Ex) (base ya : Nat) (yc : Value → Array Value) (vo : Value) (n : Nat) (ys : List Value) (wc : World) : Prop :=
  ∃ (A8 : Option Addr) (c8 : Nat) (cs : List Value) (i' : Nat) (er' : Int) (zm : Nat), Blk wc ya 76 (yc (.slice A8 (n + 1) c8)) ∧ Par wc g A c m ts i' dp er' ∧ Kept (fun z => z = g ∨ z = ya ∨ vo.ownBlock = some z) W wc ∧
    wc.ownsRow base 40 4 (.slice A8 (n + 1) c8) (n + 1) (ys ++ cs) ∧ cs.length = 4 ∧ PsAt ts i' er' p (fun x => TE (fun k => W.heap.size ≤ k ∧ k < zm) wc x cs) ∧ W.heap.size ≤ zm ∧ zm ≤ wc.heap.size ∧
    ∀ z, (Value.slice A8 (n + 1) c8).ownBlock = some z → vo.ownBlock = some z ∨ zm ≤ z
theorem app_mk {w0 W w5 w8 : World} {i0 : Nat} {er0 : Int} {g c : Nat} {A : Option Addr} {m : Nat → Nat} {ts : List Tk} {dp : Int} {p : PS Ex} {base ya f : Nat} {yc : Value → Array Value} {vo : Value} {n : Nat} {ys : List Value} {A8 : Option Addr} {c8 i' : Nat} {er' : Int} {op N : Int} {nm : ByteArray} {B : Option Addr} {l q : Nat}
    (HH : Par w0 g A c m ts i0 dp er0) (K0 : Kept (fun z => z = g) w0 W) (hb0 : w0.heap.size ≤ base) (k5 : Kept (fun z => z = g) W.drew w5) (p5 : Par w5 g A c m ts i' dp er') (ps : PsAt ts i' er' p (fun a => IsEl QE W.drew.heap.size w5 a (.agg #[.int .i64 op, .int .i64 N, .string nm, .slice B l q])))
    (y5 : Blk w5 ya 76 (yc vo)) (o8 : w8.ownsRow base 40 4 (.slice A8 (n + 1) c8) (n + 1) (ys ++ [.int .i64 op, .int .i64 N, .string nm, .slice B l q]))
    (g8 : (w5.alloc (.cells #[.int .i64 op, .int .i64 N, .string nm, .slice B l q] 40)).grownBy w8 vo.ownBlock)
    (at8 : (Value.slice A8 (n + 1) c8).ownBlock = vo.ownBlock ∨ (Value.slice A8 (n + 1) c8).ownBlock = some (w5.alloc (.cells #[.int .i64 op, .int .i64 N, .string nm, .slice B l q] 40)).heap.size)
    (hv : ∀ z, vo.ownBlock = some z → base < z ∧ z < W.heap.size ∧ z ≠ ya) (hgb : g < base) (hby : base ≤ ya) (hyW : ya < W.heap.size) (hyc : ∀ v v', (yc v).setIfInBounds f v' = yc v') :
    AppTo W g c A m ts dp p base ya yc vo n ys (w8.setCell ⟨ya, f, none⟩ (.slice A8 (n + 1) c8)) := by
  have zd : W.drew.heap.size = W.heap.size := rfl
  have z5 := k5.size
  have k58 : Kept (fun z => vo.ownBlock = some z) w5 w8 := ((Kept.refl (fun z => vo.ownBlock = some z) w5).alloc _).then_ (Kept.of_grown g8 (fun _ e => e)) (fun _ _ e => e)
  have k89 := (Kept.refl (fun z => z = ya) w8).setCell (p := ⟨ya, f, none⟩) (fun _ => rfl) (.slice A8 (n + 1) c8)
  have k59 : Kept (fun z => z = ya ∨ vo.ownBlock = some z) w5 (w8.setCell ⟨ya, f, none⟩ (.slice A8 (n + 1) c8)) := (k58.mono (T := fun z => z = ya ∨ vo.ownBlock = some z) (fun _ _ e => .inr e)).then_ k89 (fun _ _ e => .inl e)
  have z8 := k58.size
  have z9 := k89.size
  have KW : Kept (fun z => z = g ∨ z = ya ∨ vo.ownBlock = some z) W (w8.setCell ⟨ya, f, none⟩ (.slice A8 (n + 1) c8)) := (((Kept.refl (fun z => z = g ∨ z = ya ∨ vo.ownBlock = some z) W).drew).then_ k5 (fun _ _ e => .inl e)).then_ k59 (fun _ _ e => .inr e)
  refine ⟨A8, c8, [.int .i64 op, .int .i64 N, .string nm, .slice B l q], i', er', w5.heap.size, ?_, ?_, KW, ?_, rfl, ?_, by omega, by omega, ?_⟩
  · have h := (y5.kept k58 (fun e => (hv _ e).2.2 rfl)).set_ f (.slice A8 (n + 1) c8)
    rw [hyc] at h
    exact h
  · exact HH.put p5.at_ (p5.blk.kept k59 (fun e => by rcases e with e | e <;> first | omega | (have := hv _ e; omega))) (K0.then_ KW (fun z hz e => by rcases e with e | e | e <;> first | omega | (have := hv _ e; omega)))
  · refine own_keptS o8 k89 (fun z hz e => ?_)
    rcases at8 with h | h
    · exact (hv z (h ▸ hz)).2.2 e
    · rw [h] at hz
      have := Option.some.inj hz
      have hs : (w5.alloc (.cells #[.int .i64 op, .int .i64 N, .string nm, .slice B l q] 40)).heap.size = w5.heap.size + 1 := by simp
      omega
  · refine ps.mono fun x hx => ?_
    obtain ⟨cs, hcs, hT⟩ := hx
    have : cs = [.int .i64 op, .int .i64 N, .string nm, .slice B l q] := by
      injection hcs with hcs
      have := congrArg Array.toList hcs
      simpa using this.symm
    subst this
    exact QE_kept _ _ _ w5 _ _ x k59 (fun k hk hd e => by rcases e with e | e <;> first | omega | (have := hv _ e; omega)) (fun k hk hd => ⟨by omega, hk⟩) hT
  · intro z hz
    rcases at8 with h | h
    · exact .inl (h ▸ hz)
    · rw [h] at hz
      have := Option.some.inj hz
      have hs : (w5.alloc (.cells #[.int .i64 op, .int .i64 N, .string nm, .slice B l q] 40)).heap.size = w5.heap.size + 1 := by simp
      exact .inr (by omega)
theorem elsg_own {α : Type} {s n c base : Nat} {Q : Cel α} {w : World} {t : TypeId} {A : Option Addr} {xs : List Value} {l : List α} (h : w.ownsRow base t s (.slice A n c) n xs) (hn : n ≤ 2513169434843) (hl : l.length = n) (hq : ∀ i (hi : i < l.length), Q (fun k => base ≤ k) w ((xs.drop (i * s)).take s) (l[i]'hi)) : ElsG (fun k => base ≤ k) w s 2513169434843 (Q (fun k => base ≤ k) w) A n l := by
  refine ⟨xs, Reads.of_own h, fun h0 a ha => ?_, hn, hl, hq⟩
  obtain ⟨A', c', hv, hb⟩ := own_is h
  injection hv with hv _ _
  subst hv
  exact own_ge h _ (hb a h0 ha)
theorem Blk.put7 {w : World} {g : Nat} {t : TypeId} {a0 a1 a2 a3 a4 a5 a6 : Value} (h : Blk w g t #[a0, a1, a2, a3, a4, a5, a6]) (x0 x1 x2 x3 x4 x5 x6 : Value) : Blk (((((((w.setCell ⟨g, 0, none⟩ x0).setCell ⟨g, 1, none⟩ x1).setCell ⟨g, 2, none⟩ x2).setCell ⟨g, 3, none⟩ x3).setCell ⟨g, 4, none⟩ x4).setCell ⟨g, 5, none⟩ x5).setCell ⟨g, 6, none⟩ x6) g t #[x0, x1, x2, x3, x4, x5, x6] := by
  have h0 : Blk (w.setCell ⟨g, 0, none⟩ x0) g t #[x0, a1, a2, a3, a4, a5, a6] := h.set_ 0 x0
  have h1 : Blk ((w.setCell ⟨g, 0, none⟩ x0).setCell ⟨g, 1, none⟩ x1) g t #[x0, x1, a2, a3, a4, a5, a6] := h0.set_ 1 x1
  have h2 : Blk (((w.setCell ⟨g, 0, none⟩ x0).setCell ⟨g, 1, none⟩ x1).setCell ⟨g, 2, none⟩ x2) g t #[x0, x1, x2, a3, a4, a5, a6] := h1.set_ 2 x2
  have h3 : Blk ((((w.setCell ⟨g, 0, none⟩ x0).setCell ⟨g, 1, none⟩ x1).setCell ⟨g, 2, none⟩ x2).setCell ⟨g, 3, none⟩ x3) g t #[x0, x1, x2, x3, a4, a5, a6] := h2.set_ 3 x3
  have h4 : Blk (((((w.setCell ⟨g, 0, none⟩ x0).setCell ⟨g, 1, none⟩ x1).setCell ⟨g, 2, none⟩ x2).setCell ⟨g, 3, none⟩ x3).setCell ⟨g, 4, none⟩ x4) g t #[x0, x1, x2, x3, x4, a5, a6] := h3.set_ 4 x4
  have h5 : Blk ((((((w.setCell ⟨g, 0, none⟩ x0).setCell ⟨g, 1, none⟩ x1).setCell ⟨g, 2, none⟩ x2).setCell ⟨g, 3, none⟩ x3).setCell ⟨g, 4, none⟩ x4).setCell ⟨g, 5, none⟩ x5) g t #[x0, x1, x2, x3, x4, x5, a6] := h4.set_ 5 x5
  have h6 : Blk (((((((w.setCell ⟨g, 0, none⟩ x0).setCell ⟨g, 1, none⟩ x1).setCell ⟨g, 2, none⟩ x2).setCell ⟨g, 3, none⟩ x3).setCell ⟨g, 4, none⟩ x4).setCell ⟨g, 5, none⟩ x5).setCell ⟨g, 6, none⟩ x6) g t #[x0, x1, x2, x3, x4, x5, x6] := h5.set_ 6 x6
  exact h6
theorem Kept.put7 (w : World) (g : Nat) (x0 x1 x2 x3 x4 x5 x6 : Value) : Kept (fun k => k = g) w (((((((w.setCell ⟨g, 0, none⟩ x0).setCell ⟨g, 1, none⟩ x1).setCell ⟨g, 2, none⟩ x2).setCell ⟨g, 3, none⟩ x3).setCell ⟨g, 4, none⟩ x4).setCell ⟨g, 5, none⟩ x5).setCell ⟨g, 6, none⟩ x6) := (((((((Kept.refl (fun k => k = g) w).setCell (p := ⟨g, 0, none⟩) (fun _ => rfl) x0).setCell (p := ⟨g, 1, none⟩) (fun _ => rfl) x1).setCell (p := ⟨g, 2, none⟩) (fun _ => rfl) x2).setCell (p := ⟨g, 3, none⟩) (fun _ => rfl) x3).setCell (p := ⟨g, 4, none⟩) (fun _ => rfl) x4).setCell (p := ⟨g, 5, none⟩) (fun _ => rfl) x5).setCell (p := ⟨g, 6, none⟩) (fun _ => rfl) x6
theorem putT_st  (ts : List Tk) (i : Nat) (er : Int) : stP putT ts i er = ((((stP exprP ts i er).bind fun a r => ((mustP [93]) r).bind fun b r => .ok (a, b) r).bind fun a r => ((mustP [61]) r).bind fun b r => .ok (a, b) r).bind fun a r => (exprP r).bind fun b r => .ok (a, b) r).bind fun x r => .ok ((fun x : ((Ex × Unit) × Unit) × Ex => ((1 : Int), [x.1.1.1, x.2])) x) r := by
  by_cases he : er = 0
  · unfold stP
    rw [if_pos he, if_pos he]
    unfold putT
    simp only [PS.bind_assoc, PS.ok_bind]
    all_goals rfl
  · unfold stP
    rw [if_neg he, if_neg he]
    rfl
theorem setT_st  (ts : List Tk) (i : Nat) (er : Int) : stP setT ts i er = ((stP (mustP [61]) ts i er).bind fun a r => (exprP r).bind fun b r => .ok (a, b) r).bind fun x r => .ok ((fun x : Unit × Ex => ((0 : Int), [x.2])) x) r := by
  by_cases he : er = 0
  · unfold stP
    rw [if_pos he, if_pos he]
    unfold setT
    simp only [PS.bind_assoc, PS.ok_bind]
    all_goals rfl
  · unfold stP
    rw [if_neg he, if_neg he]
    rfl
end Go.Proofs.YtdgekckedchjbaaDoor
namespace Go.Proofs.YtdgekckedchjbaaDoor
open Go.RowKit

def elP (d : Nat) (r : List Tk) : PS (List St) := if hasT [101, 108, 115, 101] r then innerP d r.tail else .ok [] r
def condP (d : Nat) (r : List Tk) : PS St := (exprP r).bind fun e r => (mustP [116, 104, 101, 110] r).bind fun _ r => (innerP d r).bind fun l r => (elP d r).bind fun el r => (mustP [101, 110, 100] r).bind fun _ r => .ok (.mk 2 [] [e] 0 0 l el) r
def forP (d : Nat) (r : List Tk) : PS St := (nameP r).bind fun nm r => (signedP r).bind fun lo r => (signedP r).bind fun hi r => (mustP [100, 111] r).bind fun _ r => (innerP d r).bind fun l r => (mustP [101, 110, 100] r).bind fun _ r => .ok (.mk 3 nm [] lo hi l []) r
def refP (r : List Tk) : PS St := .ok (.mk 4 [] [] 0 0 [] []) r
def rollP (r : List Tk) : PS St := (nameP r).bind fun nm r => (numP r).bind fun n r => .ok (.mk 5 nm [] n 0 [] []) r
def seatP (r : List Tk) : PS St := (exprP r).bind fun e r => .ok (.mk 6 [] [e] 0 0 [] []) r
def overP (r : List Tk) : PS St := .ok (.mk 7 [] [] 0 0 [] []) r
def payP (r : List Tk) : PS St := (exprP r).bind fun e r => (exprP r).bind fun e2 r => .ok (.mk 8 [] [e, e2] 0 0 [] []) r
def restP (r : List Tk) : PS St := (exprP r).bind fun e r => .ok (.mk 9 [] [e] 0 0 [] []) r
theorem stmt_word (d : Nat) (t : Tk) (r : List Tk) (hk : t.kind = 3) : stmtD (d + 1) (t :: r) =
    if t.text = [105, 102] then condP d r else if t.text = [102, 111, 114] then forP d r else if t.text = [114, 101, 102, 117, 115, 101] then refP r else if t.text = [114, 111, 108, 108] then rollP r
    else if t.text = [115, 101, 97, 116] then seatP r else if t.text = [111, 118, 101, 114] then overP r else if t.text = [112, 97, 121] then payP r else restP r := by
  have e1 : kindT 1 (t :: r) = false := by simp [kindT, hk]
  have e2 : wordP (t :: r) = .ok t.text r := by simp [wordP, takeP, hk, PS.bind]
  simp only [stmtD]
  rw [e1, if_neg (by decide), e2]
  rfl
theorem stmt_name (d : Nat) (r : List Tk) (hk : kindT 1 r = true) : stmtD (d + 1) r = assignP r := by
  simp only [stmtD]
  rw [if_pos hk]
theorem SE.deep {D : Nat → Prop} {w : World} : ∀ (n : Nat) (cs : List Value) (s : St), SE D w n cs s → SE D w (n + 1) cs s
  | 0, _, _, h => absurd h id
  | n + 1, cs, .mk kind nm E lo hi L El, h => by
    obtain ⟨A1, l1, c1, A2, l2, c2, A3, l3, c3, h1, h2, h3, h4⟩ := h
    exact ⟨A1, l1, c1, A2, l2, c2, A3, l3, c3, h1, h2, h3.kept (Kept.refl (fun _ => False) _) (fun _ _ _ h => h) (fun _ _ h => h) (SE.deep n), h4.kept (Kept.refl (fun _ => False) _) (fun _ _ _ h => h) (fun _ _ h => h) (SE.deep n)⟩
theorem SE.deeper {D : Nat → Prop} {w : World} {n m : Nat} (hm : n ≤ m) {cs : List Value} {s : St} (h : SE D w n cs s) : SE D w m cs s := by
  obtain ⟨d, rfl⟩ : ∃ d, m = n + d := ⟨m - n, by omega⟩
  induction d with
  | zero => exact h
  | succ d ih => exact SE.deep _ _ _ (ih (by omega))
theorem elsg_blk {base : Nat} {w : World} {t : TypeId} {b : Nat} {cs : List Value} {x : Ex} (hb : Blk w b t (List.toArray cs)) (hl : cs.length = 4) (hB : base ≤ b) (h : QE (fun k => base ≤ k) w cs x) : ElsG (fun k => base ≤ k) w 4 2513169434843 (QE (fun k => base ≤ k) w) (some ⟨b, 0, none⟩) 1 [x] :=
  elsg_own (Q := QE) (own_one hb hl hB) (by omega) rfl fun i hi => by
    match i, hi with
    | 0, _ =>
      rw [Nat.zero_mul, List.drop_zero, List.take_of_length_le (by omega)]
      exact h
    | i + 1, hi => simp at hi
theorem IsRow.els {α : Type} {s : Nat} {Q : Cel α} {b : Nat} {w : World} {l : List α} {A : Option Addr} {n c : Nat} (h : IsRow s Q b w l (.slice A n c)) : ElsG (fun k => b ≤ k) w s 2513169434843 (Q (fun k => b ≤ k) w) A n l := by
  obtain ⟨A', n', c', hv, h⟩ := h
  injection hv with h1 h2 h3
  subst h1
  subst h2
  exact h
theorem IsEl.cells {α : Type} {Q : Cel α} {b : Nat} {w : World} {a : α} {cs : List Value} (h : IsEl Q b w a (.agg (List.toArray cs))) : Q (fun k => b ≤ k) w cs a := by
  obtain ⟨cs', hv, h⟩ := h
  injection hv with hv
  have := congrArg Array.toList hv
  simp only at this
  rw [this]
  exact h
theorem cond_st (d : Nat) (ts : List Tk) (i : Nat) (er : Int) : stP (condP d) ts i er = (((((stP exprP ts i er).bind fun a r => ((mustP [116, 104, 101, 110]) r).bind fun b r => .ok (a, b) r).bind fun a r => ((innerP d) r).bind fun b r => .ok (a, b) r).bind fun a r => ((elP d) r).bind fun b r => .ok (a, b) r).bind fun a r => ((mustP [101, 110, 100]) r).bind fun b r => .ok (a, b) r).bind fun x r => .ok ((fun x : (((Ex × Unit) × List St) × List St) × Unit => St.mk 2 [] [x.1.1.1.1] 0 0 x.1.1.2 x.1.2) x) r := by
  by_cases he : er = 0
  · unfold stP
    rw [if_pos he, if_pos he]
    unfold condP
    simp only [PS.bind_assoc, PS.ok_bind]
    all_goals rfl
  · unfold stP
    rw [if_neg he, if_neg he]
    rfl
theorem for_st (d : Nat) (ts : List Tk) (i : Nat) (er : Int) : stP (forP d) ts i er = ((((((stP nameP ts i er).bind fun a r => (signedP r).bind fun b r => .ok (a, b) r).bind fun a r => (signedP r).bind fun b r => .ok (a, b) r).bind fun a r => ((mustP [100, 111]) r).bind fun b r => .ok (a, b) r).bind fun a r => ((innerP d) r).bind fun b r => .ok (a, b) r).bind fun a r => ((mustP [101, 110, 100]) r).bind fun b r => .ok (a, b) r).bind fun x r => .ok ((fun x : ((((List UInt8 × Int) × Int) × Unit) × List St) × Unit => St.mk 3 x.1.1.1.1.1 [] x.1.1.1.1.2 x.1.1.1.2 x.1.2 []) x) r := by
  by_cases he : er = 0
  · unfold stP
    rw [if_pos he, if_pos he]
    unfold forP
    simp only [PS.bind_assoc, PS.ok_bind]
    all_goals rfl
  · unfold stP
    rw [if_neg he, if_neg he]
    rfl
theorem roll_st  (ts : List Tk) (i : Nat) (er : Int) : stP rollP ts i er = ((stP nameP ts i er).bind fun a r => (numP r).bind fun b r => .ok (a, b) r).bind fun x r => .ok ((fun x : List UInt8 × Int => St.mk 5 x.1 [] x.2 0 [] []) x) r := by
  by_cases he : er = 0
  · unfold stP
    rw [if_pos he, if_pos he]
    unfold rollP
    simp only [PS.bind_assoc, PS.ok_bind]
    all_goals rfl
  · unfold stP
    rw [if_neg he, if_neg he]
    rfl
theorem seat_st  (ts : List Tk) (i : Nat) (er : Int) : stP seatP ts i er = (stP exprP ts i er).bind fun x r => .ok ((fun x : Ex => St.mk 6 [] [x] 0 0 [] []) x) r := by
  by_cases he : er = 0
  · unfold stP
    rw [if_pos he, if_pos he]
    unfold seatP
    all_goals rfl
  · unfold stP
    rw [if_neg he, if_neg he]
    rfl
theorem rest_st  (ts : List Tk) (i : Nat) (er : Int) : stP restP ts i er = (stP exprP ts i er).bind fun x r => .ok ((fun x : Ex => St.mk 9 [] [x] 0 0 [] []) x) r := by
  by_cases he : er = 0
  · unfold stP
    rw [if_pos he, if_pos he]
    unfold restP
    all_goals rfl
  · unfold stP
    rw [if_neg he, if_neg he]
    rfl
theorem pay_st  (ts : List Tk) (i : Nat) (er : Int) : stP payP ts i er = ((stP exprP ts i er).bind fun a r => (exprP r).bind fun b r => .ok (a, b) r).bind fun x r => .ok ((fun x : Ex × Ex => St.mk 8 [] [x.1, x.2] 0 0 [] []) x) r := by
  by_cases he : er = 0
  · unfold stP
    rw [if_pos he, if_pos he]
    unfold payP
    simp only [PS.bind_assoc, PS.ok_bind]
    all_goals rfl
  · unfold stP
    rw [if_neg he, if_neg he]
    rfl
end Go.Proofs.YtdgekckedchjbaaDoor
