
/-
  The parser of programs: programs in memory; the parser's program. (Printed by wip/tools/gens28.py.)
-/
import Derived.Test.YtdgekckedchjbaaDoorQJ
namespace Go.Proofs.YtdgekckedchjbaaDoor
open Go.RowKit

/-- A slice of elements of s cells each, in blocks D. -/
def RowD {α : Type} (D : Nat → Prop) (s : Nat) (Q : Cel α) (w : World) (l : List α) (v : Value) : Prop := ∃ (A : Option Addr) (n c : Nat), v = .slice A n c ∧ ElsG D w s 2513169434843 (Q D w) A n l
theorem RowD.kept {α : Type} {s : Nat} {Q : Cel α} (hq : QKept Q) {D E S : Nat → Prop} {w w' : World} {l : List α} {v : Value} (hk : Kept S w w') (hs : ∀ k, k < w.heap.size → D k → ¬ S k) (hE : ∀ k, k < w.heap.size → D k → E k) (h : RowD D s Q w l v) : RowD E s Q w' l v := by
  obtain ⟨A, n, c, h1, h2⟩ := h
  exact ⟨A, n, c, h1, h2.kept hk hs hE (fun cs a h => hq D E S w w' cs a hk hs hE h)⟩
/-- A program's eleven cells. -/
def PC : Cel Pg := fun D w cs p => ∃ v1 v2 v3 v4 v5 v6 v7 v8 : Value, cs = [.string (str p.nm), .int .i64 p.seats, v1, v2, v3, v4, v5, v6, .string (str p.silent), v7, v8] ∧ RowD D 1 QI w p.stakes v1 ∧ RowD D 4 QV w p.vars v2 ∧ RowD D 7 (QS 16) w p.start v3 ∧ RowD D 7 (QS 16) w p.turn v4 ∧ RowD D 4 QV w p.params v5 ∧ RowD D 7 (QS 16) w p.play v6 ∧ RowD D 7 (QS 16) w p.quiet v7 ∧ RowD D 7 (QS 16) w p.pays v8
theorem PC_kept : QKept PC := fun D E S w w' cs p hk hs hE h => by
  obtain ⟨v1, v2, v3, v4, v5, v6, v7, v8, h0, h1, h2, h3, h4, h5, h6, h7, h8⟩ := h
  exact ⟨v1, v2, v3, v4, v5, v6, v7, v8, h0, h1.kept QI_kept hk hs hE, h2.kept QV_kept hk hs hE, h3.kept (QS_kept 16) hk hs hE, h4.kept (QS_kept 16) hk hs hE, h5.kept QV_kept hk hs hE, h6.kept (QS_kept 16) hk hs hE, h7.kept (QS_kept 16) hk hs hE, h8.kept (QS_kept 16) hk hs hE⟩
def ShPg (_ : World) (v : Value) : Prop := ∃ (nm : ByteArray) (seats : Int) (sil : ByteArray) (A1 : Option Addr) (n1 c1 : Nat) (A2 : Option Addr) (n2 c2 : Nat) (A3 : Option Addr) (n3 c3 : Nat) (A4 : Option Addr) (n4 c4 : Nat) (A5 : Option Addr) (n5 c5 : Nat) (A6 : Option Addr) (n6 c6 : Nat) (A7 : Option Addr) (n7 c7 : Nat) (A8 : Option Addr) (n8 c8 : Nat), v = .agg #[.string nm, .int .i64 seats, .slice A1 n1 c1, .slice A2 n2 c2, .slice A3 n3 c3, .slice A4 n4 c4, .slice A5 n5 c5, .slice A6 n6 c6, .string sil, .slice A7 n7 c7, .slice A8 n8 c8]
theorem Blk.put11 {w : World} {g : Nat} {t : TypeId} {a0 a1 a2 a3 a4 a5 a6 a7 a8 a9 a10 : Value} (h : Blk w g t #[a0, a1, a2, a3, a4, a5, a6, a7, a8, a9, a10]) (x0 x1 x2 x3 x4 x5 x6 x7 x8 x9 x10 : Value) : Blk (((((((((((w.setCell ⟨g, 0, none⟩ x0).setCell ⟨g, 1, none⟩ x1).setCell ⟨g, 2, none⟩ x2).setCell ⟨g, 3, none⟩ x3).setCell ⟨g, 4, none⟩ x4).setCell ⟨g, 5, none⟩ x5).setCell ⟨g, 6, none⟩ x6).setCell ⟨g, 7, none⟩ x7).setCell ⟨g, 8, none⟩ x8).setCell ⟨g, 9, none⟩ x9).setCell ⟨g, 10, none⟩ x10) g t #[x0, x1, x2, x3, x4, x5, x6, x7, x8, x9, x10] := by
  have h0 : Blk (w.setCell ⟨g, 0, none⟩ x0) g t #[x0, a1, a2, a3, a4, a5, a6, a7, a8, a9, a10] := h.set_ 0 x0
  have h1 : Blk ((w.setCell ⟨g, 0, none⟩ x0).setCell ⟨g, 1, none⟩ x1) g t #[x0, x1, a2, a3, a4, a5, a6, a7, a8, a9, a10] := h0.set_ 1 x1
  have h2 : Blk (((w.setCell ⟨g, 0, none⟩ x0).setCell ⟨g, 1, none⟩ x1).setCell ⟨g, 2, none⟩ x2) g t #[x0, x1, x2, a3, a4, a5, a6, a7, a8, a9, a10] := h1.set_ 2 x2
  have h3 : Blk ((((w.setCell ⟨g, 0, none⟩ x0).setCell ⟨g, 1, none⟩ x1).setCell ⟨g, 2, none⟩ x2).setCell ⟨g, 3, none⟩ x3) g t #[x0, x1, x2, x3, a4, a5, a6, a7, a8, a9, a10] := h2.set_ 3 x3
  have h4 : Blk (((((w.setCell ⟨g, 0, none⟩ x0).setCell ⟨g, 1, none⟩ x1).setCell ⟨g, 2, none⟩ x2).setCell ⟨g, 3, none⟩ x3).setCell ⟨g, 4, none⟩ x4) g t #[x0, x1, x2, x3, x4, a5, a6, a7, a8, a9, a10] := h3.set_ 4 x4
  have h5 : Blk ((((((w.setCell ⟨g, 0, none⟩ x0).setCell ⟨g, 1, none⟩ x1).setCell ⟨g, 2, none⟩ x2).setCell ⟨g, 3, none⟩ x3).setCell ⟨g, 4, none⟩ x4).setCell ⟨g, 5, none⟩ x5) g t #[x0, x1, x2, x3, x4, x5, a6, a7, a8, a9, a10] := h4.set_ 5 x5
  have h6 : Blk (((((((w.setCell ⟨g, 0, none⟩ x0).setCell ⟨g, 1, none⟩ x1).setCell ⟨g, 2, none⟩ x2).setCell ⟨g, 3, none⟩ x3).setCell ⟨g, 4, none⟩ x4).setCell ⟨g, 5, none⟩ x5).setCell ⟨g, 6, none⟩ x6) g t #[x0, x1, x2, x3, x4, x5, x6, a7, a8, a9, a10] := h5.set_ 6 x6
  have h7 : Blk ((((((((w.setCell ⟨g, 0, none⟩ x0).setCell ⟨g, 1, none⟩ x1).setCell ⟨g, 2, none⟩ x2).setCell ⟨g, 3, none⟩ x3).setCell ⟨g, 4, none⟩ x4).setCell ⟨g, 5, none⟩ x5).setCell ⟨g, 6, none⟩ x6).setCell ⟨g, 7, none⟩ x7) g t #[x0, x1, x2, x3, x4, x5, x6, x7, a8, a9, a10] := h6.set_ 7 x7
  have h8 : Blk (((((((((w.setCell ⟨g, 0, none⟩ x0).setCell ⟨g, 1, none⟩ x1).setCell ⟨g, 2, none⟩ x2).setCell ⟨g, 3, none⟩ x3).setCell ⟨g, 4, none⟩ x4).setCell ⟨g, 5, none⟩ x5).setCell ⟨g, 6, none⟩ x6).setCell ⟨g, 7, none⟩ x7).setCell ⟨g, 8, none⟩ x8) g t #[x0, x1, x2, x3, x4, x5, x6, x7, x8, a9, a10] := h7.set_ 8 x8
  have h9 : Blk ((((((((((w.setCell ⟨g, 0, none⟩ x0).setCell ⟨g, 1, none⟩ x1).setCell ⟨g, 2, none⟩ x2).setCell ⟨g, 3, none⟩ x3).setCell ⟨g, 4, none⟩ x4).setCell ⟨g, 5, none⟩ x5).setCell ⟨g, 6, none⟩ x6).setCell ⟨g, 7, none⟩ x7).setCell ⟨g, 8, none⟩ x8).setCell ⟨g, 9, none⟩ x9) g t #[x0, x1, x2, x3, x4, x5, x6, x7, x8, x9, a10] := h8.set_ 9 x9
  have h10 : Blk (((((((((((w.setCell ⟨g, 0, none⟩ x0).setCell ⟨g, 1, none⟩ x1).setCell ⟨g, 2, none⟩ x2).setCell ⟨g, 3, none⟩ x3).setCell ⟨g, 4, none⟩ x4).setCell ⟨g, 5, none⟩ x5).setCell ⟨g, 6, none⟩ x6).setCell ⟨g, 7, none⟩ x7).setCell ⟨g, 8, none⟩ x8).setCell ⟨g, 9, none⟩ x9).setCell ⟨g, 10, none⟩ x10) g t #[x0, x1, x2, x3, x4, x5, x6, x7, x8, x9, x10] := h9.set_ 10 x10
  exact h10
theorem Kept.put11 (w : World) (g : Nat) (x0 x1 x2 x3 x4 x5 x6 x7 x8 x9 x10 : Value) : Kept (fun k => k = g) w (((((((((((w.setCell ⟨g, 0, none⟩ x0).setCell ⟨g, 1, none⟩ x1).setCell ⟨g, 2, none⟩ x2).setCell ⟨g, 3, none⟩ x3).setCell ⟨g, 4, none⟩ x4).setCell ⟨g, 5, none⟩ x5).setCell ⟨g, 6, none⟩ x6).setCell ⟨g, 7, none⟩ x7).setCell ⟨g, 8, none⟩ x8).setCell ⟨g, 9, none⟩ x9).setCell ⟨g, 10, none⟩ x10) := (((((((((((Kept.refl (fun k => k = g) w).setCell (p := ⟨g, 0, none⟩) (fun _ => rfl) x0).setCell (p := ⟨g, 1, none⟩) (fun _ => rfl) x1).setCell (p := ⟨g, 2, none⟩) (fun _ => rfl) x2).setCell (p := ⟨g, 3, none⟩) (fun _ => rfl) x3).setCell (p := ⟨g, 4, none⟩) (fun _ => rfl) x4).setCell (p := ⟨g, 5, none⟩) (fun _ => rfl) x5).setCell (p := ⟨g, 6, none⟩) (fun _ => rfl) x6).setCell (p := ⟨g, 7, none⟩) (fun _ => rfl) x7).setCell (p := ⟨g, 8, none⟩) (fun _ => rfl) x8).setCell (p := ⟨g, 9, none⟩) (fun _ => rfl) x9).setCell (p := ⟨g, 10, none⟩) (fun _ => rfl) x10
def intsP (r : List Tk) : PS (List Int) := listP (kindT 2) numP r.length [] r
def varsP (r : List Tk) : PS (List Va) := listP (hasT [118, 97, 114]) variableP r.length [] r
theorem prog_st  (ts : List Tk) (i : Nat) (er : Int) : stP progP ts i er = ((((((((((((((((((((stP (mustP [103, 97, 109, 101]) ts i er).bind fun a r => (nameP r).bind fun b r => .ok (a, b) r).bind fun a r => ((mustP [115, 101, 97, 116, 115]) r).bind fun b r => .ok (a, b) r).bind fun a r => (numP r).bind fun b r => .ok (a, b) r).bind fun a r => ((mustP [115, 116, 97, 107, 101]) r).bind fun b r => .ok (a, b) r).bind fun a r => (numP r).bind fun b r => .ok (a, b) r).bind fun a r => (intsP r).bind fun b r => .ok (a, b) r).bind fun a r => (varsP r).bind fun b r => .ok (a, b) r).bind fun a r => ((mustP [115, 116, 97, 114, 116]) r).bind fun b r => .ok (a, b) r).bind fun a r => (partP r).bind fun b r => .ok (a, b) r).bind fun a r => ((mustP [116, 117, 114, 110]) r).bind fun b r => .ok (a, b) r).bind fun a r => (partP r).bind fun b r => .ok (a, b) r).bind fun a r => ((mustP [112, 108, 97, 121]) r).bind fun b r => .ok (a, b) r).bind fun a r => (paramsP r).bind fun b r => .ok (a, b) r).bind fun a r => (partP r).bind fun b r => .ok (a, b) r).bind fun a r => ((mustP [115, 105, 108, 101, 110, 116]) r).bind fun b r => .ok (a, b) r).bind fun a r => (nameP r).bind fun b r => .ok (a, b) r).bind fun a r => (partP r).bind fun b r => .ok (a, b) r).bind fun a r => ((mustP [112, 97, 121]) r).bind fun b r => .ok (a, b) r).bind fun a r => (partP r).bind fun b r => .ok (a, b) r).bind fun x r => .ok ((fun x : ((((((((((((((((((((Unit) × List UInt8) × Unit) × Int) × Unit) × Int) × List Int) × List Va) × Unit) × List St) × Unit) × List St) × Unit) × List Va) × List St) × Unit) × List UInt8) × List St) × Unit) × List St) => (⟨x.1.1.1.1.1.1.1.1.1.1.1.1.1.1.1.1.1.1.2, x.1.1.1.1.1.1.1.1.1.1.1.1.1.1.1.1.2, x.1.1.1.1.1.1.1.1.1.1.1.1.1.1.2 :: x.1.1.1.1.1.1.1.1.1.1.1.1.1.2, x.1.1.1.1.1.1.1.1.1.1.1.1.2, x.1.1.1.1.1.1.1.1.1.1.2, x.1.1.1.1.1.1.1.1.2, x.1.1.1.1.1.1.2, x.1.1.1.1.1.2, x.1.1.1.2, x.1.1.2, x.2⟩ : Pg)) x) r := by
  by_cases he : er = 0
  · unfold stP
    rw [if_pos he, if_pos he]
    unfold progP
    simp only [PS.bind_assoc, PS.ok_bind]
    all_goals rfl
  · unfold stP
    rw [if_neg he, if_neg he]
    rfl
/-- What append(y.2, list(..)...) leaves. -/
def StkTo (W : World) (g c : Nat) (A : Option Addr) (m : Nat → Nat) (ts : List Tk) (dp : Int) (p : PS (List Int)) (base ya b : Nat) (yc : Value → Array Value) (n0 : Int) (wc : World) : Prop :=
  ∃ (A8 : Option Addr) (n8 c8 : Nat) (zs : List Value) (i' : Nat) (er' : Int), Blk wc ya 60 (yc (.slice A8 (1 + n8) c8)) ∧ Par wc g A c m ts i' dp er' ∧ Kept (fun z => z = g ∨ z = ya ∨ z = b) W wc ∧
    wc.ownsRow base 3 1 (.slice A8 (1 + n8) c8) (1 + n8) ([.int .i64 n0] ++ zs) ∧ n8 ≤ 100000 ∧ PsAt ts i' er' p (fun l => l.length = n8 ∧ ∀ j (h : j < l.length), (zs.drop (j * 1)).take 1 = [.int .i64 (l[j]'h)]) ∧
    ∀ z, (Value.slice A8 (1 + n8) c8).ownBlock = some z → ya < z
theorem stk_mk {w0 W w5 w8 : World} {i0 : Nat} {er0 : Int} {g c : Nat} {A : Option Addr} {m : Nat → Nat} {ts : List Tk} {dp : Int} {p : PS (List Int)} {base ya b : Nat} {yc : Value → Array Value} {n0 : Int} {A8 A5 : Option Addr} {n5 c5 c8 i' : Nat} {er' : Int} {xs5 : List Value}
    (HH : Par w0 g A c m ts i0 dp er0) (K0 : Kept (fun z => z = g) w0 W) (hb0 : w0.heap.size ≤ base) (k5 : Kept (fun z => z = g) W.drew w5) (p5 : Par w5 g A c m ts i' dp er') (ps : PsAt ts i' er' p (fun l => IsRow 1 QI W.drew.heap.size w5 l (.slice A5 n5 c5)))
    (rd : Reads w5 w5.heap.size 1 A5 n5 xs5) (lm : n5 ≤ 100000) (y5 : Blk w5 ya 60 (yc (.slice (some ⟨b, 0, none⟩) 1 1))) (o8 : w8.ownsRow base 3 1 (.slice A8 (1 + n5) c8) (1 + n5) ([.int .i64 n0] ++ xs5))
    (g8 : w5.grownBy w8 (Value.slice (some ⟨b, 0, none⟩) 1 1).ownBlock)
    (at8 : (Value.slice A8 (1 + n5) c8).ownBlock = (Value.slice (some ⟨b, 0, none⟩) 1 1).ownBlock ∨ (Value.slice A8 (1 + n5) c8).ownBlock = some w5.heap.size)
    (hgb : g < base) (hby : base ≤ ya) (hyb : ya < b) (hbW : b < W.heap.size) (hyc : ∀ v v', (yc v).setIfInBounds 2 v' = yc v') :
    StkTo W g c A m ts dp p base ya b yc n0 (w8.setCell ⟨ya, 2, none⟩ (.slice A8 (1 + n5) c8)) := by
  have zd : W.drew.heap.size = W.heap.size := rfl
  have z5 := k5.size
  have k58 : Kept (fun z => z = b) w5 w8 := Kept.of_grown g8 (fun z e => by
    have e := Option.some.inj e
    simp only at e
    exact e.symm)
  have k89 := (Kept.refl (fun z => z = ya) w8).setCell (p := ⟨ya, 2, none⟩) (fun _ => rfl) (.slice A8 (1 + n5) c8)
  have k59 : Kept (fun z => z = ya ∨ z = b) w5 (w8.setCell ⟨ya, 2, none⟩ (.slice A8 (1 + n5) c8)) := (k58.mono (T := fun z => z = ya ∨ z = b) (fun _ _ e => .inr e)).then_ k89 (fun _ _ e => .inl e)
  have z8 := k58.size
  have KW : Kept (fun z => z = g ∨ z = ya ∨ z = b) W (w8.setCell ⟨ya, 2, none⟩ (.slice A8 (1 + n5) c8)) := (((Kept.refl (fun z => z = g ∨ z = ya ∨ z = b) W).drew).then_ k5 (fun _ _ e => .inl e)).then_ k59 (fun _ _ e => .inr e)
  have hown : ∀ z, (Value.slice A8 (1 + n5) c8).ownBlock = some z → ya < z := fun z hz => by
    rcases at8 with h | h
    · rw [h] at hz
      have := Option.some.inj hz
      simp only at this
      omega
    · rw [h] at hz
      have := Option.some.inj hz
      omega
  refine ⟨A8, n5, c8, xs5, i', er', ?_, ?_, KW, ?_, lm, ?_, hown⟩
  · have h := (y5.kept k58 (fun e => by omega)).set_ 2 (.slice A8 (1 + n5) c8)
    rw [hyc] at h
    exact h
  · exact HH.put p5.at_ (p5.blk.kept k59 (fun e => by rcases e with e | e <;> omega)) (K0.then_ KW (fun z hz e => by rcases e with e | e | e <;> omega))
  · exact own_keptS o8 k89 (fun z hz e => by have := hown z hz; omega)
  · refine ps.mono fun l hl => ?_
    obtain ⟨A', n', c', hv, xs', hr, -, hM, hlen, hels⟩ := hl
    injection hv with hv1 hv2 hv3
    subst hv1
    subst hv2
    have := hr.same rd
    subst this
    exact ⟨hlen, hels⟩
end Go.Proofs.YtdgekckedchjbaaDoor
