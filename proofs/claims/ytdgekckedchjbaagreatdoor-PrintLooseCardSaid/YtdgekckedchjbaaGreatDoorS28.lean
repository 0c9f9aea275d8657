
/-
  The parser of programs: programs in memory; the parser's program. (Printed by wip/tools/gens28.py.)
-/
import Derived.Test.YtdgekckedchjbaaGreatDoorQJ
namespace Go.Proofs.YtdgekckedchjbaaGreatDoor
open Go.RowKit

/-- A slice of elements of s cells each, in blocks D. -/
def RowD {α : Type} (D : Nat → Prop) (s : Nat) (Q : Cel α) (w : World) (l : List α) (v : Value) : Prop := ∃ (A : Option Addr) (n c : Nat), v = .slice A n c ∧ ElsG D w s 1000000 (Q D w) A n l
theorem RowD.kept {α : Type} {s : Nat} {Q : Cel α} (hq : QKept Q) {D E S : Nat → Prop} {w w' : World} {l : List α} {v : Value} (hk : Kept S w w') (hs : ∀ k, k < w.heap.size → D k → ¬ S k) (hE : ∀ k, k < w.heap.size → D k → E k) (h : RowD D s Q w l v) : RowD E s Q w' l v := by
  obtain ⟨A, n, c, h1, h2⟩ := h
  exact ⟨A, n, c, h1, h2.kept hk hs hE (fun cs a h => hq D E S w w' cs a hk hs hE h)⟩
/-- A program's eleven cells. -/
def PC : Cel Pg := fun D w cs p => ∃ v1 v2 v3 v4 v5 v6 v7 v8 : Value, cs = [.string (str p.nm), .int .i64 p.seats, v1, v2, v3, v4, v5, v6, .string (str p.silent), v7, v8] ∧ RowD D 1 QI w p.stakes v1 ∧ RowD D 4 QV w p.vars v2 ∧ RowD D 7 (QS 16) w p.start v3 ∧ RowD D 7 (QS 16) w p.turn v4 ∧ RowD D 4 QV w p.params v5 ∧ RowD D 7 (QS 16) w p.play v6 ∧ RowD D 7 (QS 16) w p.quiet v7 ∧ RowD D 7 (QS 16) w p.pays v8
theorem PC_kept : QKept PC := fun D E S w w' cs p hk hs hE h => by
  obtain ⟨v1, v2, v3, v4, v5, v6, v7, v8, h0, h1, h2, h3, h4, h5, h6, h7, h8⟩ := h
  exact ⟨v1, v2, v3, v4, v5, v6, v7, v8, h0, h1.kept QI_kept hk hs hE, h2.kept QV_kept hk hs hE, h3.kept (QS_kept 16) hk hs hE, h4.kept (QS_kept 16) hk hs hE, h5.kept QV_kept hk hs hE, h6.kept (QS_kept 16) hk hs hE, h7.kept (QS_kept 16) hk hs hE, h8.kept (QS_kept 16) hk hs hE⟩
def ShPg (_ : World) (v : Value) : Prop := ∃ (nm : ByteArray) (seats : Int) (sil : ByteArray) (A1 : Option Addr) (n1 c1 : Nat) (A2 : Option Addr) (n2 c2 : Nat) (A3 : Option Addr) (n3 c3 : Nat) (A4 : Option Addr) (n4 c4 : Nat) (A5 : Option Addr) (n5 c5 : Nat) (A6 : Option Addr) (n6 c6 : Nat) (A7 : Option Addr) (n7 c7 : Nat) (A8 : Option Addr) (n8 c8 : Nat), v = .agg #[.string nm, .int .i64 seats, .slice A1 n1 c1, .slice A2 n2 c2, .slice A3 n3 c3, .slice A4 n4 c4, .slice A5 n5 c5, .slice A6 n6 c6, .string sil, .slice A7 n7 c7, .slice A8 n8 c8]
theorem Blk.put11 {w : World} {g : Nat} {t : TypeId} {a0 a1 a2 a3 a4 a5 a6 a7 a8 a9 a10 : Value} (h : Blk w g t #[a0, a1, a2, a3, a4, a5, a6, a7, a8, a9, a10]) (x0 x1 x2 x3 x4 x5 x6 x7 x8 x9 x10 : Value) : Blk (((((((((((w.setCell ⟨g, 0, none⟩ x0).setCell ⟨g, 1, none⟩ x1).setCell ⟨g, 2, none⟩ x2).setCell ⟨g, 3, none⟩ x3).setCell ⟨g, 4, none⟩ x4).setCell ⟨g, 5, none⟩ x5).setCell ⟨g, 6, none⟩ x6).setCell ⟨g, 7, none⟩ x7).setCell ⟨g, 8, none⟩ x8).setCell ⟨g, 9, none⟩ x9).setCell ⟨g, 10, none⟩ x10) g t #[x0, x1, x2, x3, x4, x5, x6, x7, x8, x9, x10] := by
  have h0 : Blk (w.setCell ⟨g, 0, none⟩ x0) g t #[x0, a1, a2, a3, a4, a5, a6, a7, a8, a9, a10] := h.set_ 0 x0
  have h1 : Blk ((w.setCell ⟨g, 0, none⟩ x0).setCell ⟨g, 1, none⟩ x1) g t #[x0, x1, a2, a3, a4, a5, a6, a7, a8, a9, a10] := h0.set_ 1 x1
  have h2 : Blk (((w.setCell ⟨g, 0, none⟩ x0).setCell ⟨g, 1, none⟩ x1).setCell ⟨g, 2, none⟩ x2) g t #[x0, x1, x2, a3, a4, a5, a6, a7, a8, a9, a10] := h1.set_ 2 x2
  have h3 : Blk ((((w.setCell ⟨g, 0, none⟩ x0).setCell ⟨g, 1, none⟩ x1).setCell ⟨g, 2, none⟩ x2).setCell ⟨g, 3, none⟩ x3) g t #[x0, x1, x2, x3, a4, a5, a6, a7, a8, a9, a10] := h2.set_ 3 x3
  have h4 : Blk (((((w.setCell ⟨g, 0, none⟩ x0).setCell ⟨g, 1, none⟩ x1).setCell ⟨g, 2, none⟩ x2).setCell ⟨g, 3, none⟩ x3).setCell ⟨g, 4, none⟩ x4) g t #[x0, x1, x2, x3, x4, a5, a6, a7, a8, a9, a10] := h3.set_ 4 x4
  have h5 : Blk ((((((w.setCell ⟨g, 0, none⟩ x0).setCell ⟨g, 1, none⟩ x1).setCell ⟨g, 2, none⟩ x2).setCell ⟨g, 3, none⟩ x3).setCell ⟨g, 4, none⟩ x4).setCell ⟨g, 5, none⟩ x5) g t #[x0, x1, x2, x3, x4, x5, a6, a7, a8, a9, a10] := h4.set_ 5 x5
  have h6 : Blk (((((((w.setCell ⟨g, 0, none⟩ x0).setCell ⟨g, 1, none⟩ x1).setCell ⟨g, 2, none⟩ x2).setCell ⟨g, 3, none⟩ x3).setCell ⟨g, 4, none⟩ x4).setCell ⟨g, 5, none⟩ x5).setCell ⟨g, 6, none⟩ x6) g t #[x0, x1, x2, x3, x4, x5, x6, a7, a8, a9, a10] := h5.set_ 6 x6
  have h7 : Blk ((((((((w.setCell ⟨g, 0, none⟩ x0).setCell ⟨g, 1, none⟩ x1).setCell ⟨g, 2, none⟩ x2).setCell ⟨g, 3, none⟩ x3).setCell ⟨g, 4, none⟩ x4).setCell ⟨g, 5, none⟩ x5).setCell ⟨g, 6, none⟩ x6).setCell ⟨g, 7, none⟩ x7) g t #[x0, x1, x2, x3, x4, x5, x6, x7, a8, a9, a10] := h6.set_ 7 x7
  have h8 : Blk (((((((((w.setCell ⟨g, 0, none⟩ x0).setCell ⟨g, 1, none⟩ x1).setCell ⟨g, 2, none⟩ x2).setCell ⟨g, 3, none⟩ x3).setCell ⟨g, 4, none⟩ x4).setCell ⟨g, 5, none⟩ x5).setCell ⟨g, 6, none⟩ x6).setCell ⟨g, 7, none⟩ x7).setCell ⟨g, 8, none⟩ x8) g t #[x0, x1, x2, x3, x4, x5, x6, x7, x8, a9, a10] := h7.set_ 8 x8
  have h9 : Blk ((((((((((w.setCell ⟨g, 0, none⟩ x0).setCell ⟨g, 1, none⟩ x1).setCell ⟨g, 2, none⟩ x2).setCell ⟨g, 3, none⟩ x3).setCell ⟨g, 4, none⟩ x4).setCell ⟨g, 5, none⟩ x5).setCell ⟨g, 6, none⟩ x6).setCell ⟨g, 7, none⟩ x7).setCell ⟨g, 8, none⟩ x8).setCell ⟨g, 9, none⟩ x9) g t #[x0, x1, x2, x3, x4, x5, x6, x7, x8, x9, a10] := h8.set_ 9 x9
  have h10 : Blk (((((((((((w.setCell ⟨g, 0, none⟩ x0).setCell ⟨g, 1, none⟩ x1).setCell ⟨g, 2, none⟩ x2).setCell ⟨g, 3, none⟩ x3).setCell ⟨g, 4, none⟩ x4).setCell ⟨g, 5, none⟩ x5).setCell ⟨g, 6, none⟩ x6).setCell ⟨g, 7, none⟩ x7).setCell ⟨g, 8, none⟩ x8).setCell ⟨g, 9, none⟩ x9).setCell ⟨g, 10, none⟩ x10) g t #[x0, x1, x2, x3, x4, x5, x6, x7, x8, x9, x10] := h9.set_ 10 x10
  exact h10
theorem Kept.put11 (w : World) (g : Nat) (x0 x1 x2 x3 x4 x5 x6 x7 x8 x9 x10 : Value) : Kept (fun k => k = g) w (((((((((((w.setCell ⟨g, 0, none⟩ x0).setCell ⟨g, 1, none⟩ x1).setCell ⟨g, 2, none⟩ x2).setCell ⟨g, 3, none⟩ x3).setCell ⟨g, 4, none⟩ x4).setCell ⟨g, 5, none⟩ x5).setCell ⟨g, 6, none⟩ x6).setCell ⟨g, 7, none⟩ x7).setCell ⟨g, 8, none⟩ x8).setCell ⟨g, 9, none⟩ x9).setCell ⟨g, 10, none⟩ x10) := (((((((((((Kept.refl (fun k => k = g) w).setCell (p := ⟨g, 0, none⟩) (fun _ => rfl) x0).setCell (p := ⟨g, 1, none⟩) (fun _ => rfl) x1).setCell (p := ⟨g, 2, none⟩) (fun _ => rfl) x2).setCell (p := ⟨g, 3, none⟩) (fun _ => rfl) x3).setCell (p := ⟨g, 4, none⟩) (fun _ => rfl) x4).setCell (p := ⟨g, 5, none⟩) (fun _ => rfl) x5).setCell (p := ⟨g, 6, none⟩) (fun _ => rfl) x6).setCell (p := ⟨g, 7, none⟩) (fun _ => rfl) x7).setCell (p := ⟨g, 8, none⟩) (fun _ => rfl) x8).setCell (p := ⟨g, 9, none⟩) (fun _ => rfl) x9).setCell (p := ⟨g, 10, none⟩) (fun _ => rfl) x10
def intsP (r : List Tk) : PS (List Int) := listP (kindT 2) numP r.length [] r
def varsP (r : List Tk) : PS (List Va) := listP (hasT [118, 97, 114]) variableP r.length [] r
theorem prog_st  (ts : List Tk) (i : Nat) (er : Int) : stP progP ts i er = ((((((((((((((((((((stP (mustP [103, 97, 109, 101]) ts i er).bind fun a r => (nameP r).bind fun b r => .ok (a, b) r).bind fun a r => ((mustP [115, 101, 97, 116, 115]) r).bind fun b r => .ok (a, b) r).bind fun a r => (numP r).bind fun b r => .ok (a, b) r).bind fun a r => ((mustP [115, 116, 97, 107, 101]) r).bind fun b r => .ok (a, b) r).bind fun a r => (numP r).bind fun b r => .ok (a, b) r).bind fun a r => (intsP r).bind fun b r => .ok (a, b) r).bind fun a r => (varsP r).bind fun b r => .ok (a, b) r).bind fun a r => ((mustP [115, 116, 97, 114, 116]) r).bind fun b r => .ok (a, b) r).bind fun a r => (partP r).bind fun b r => .ok (a, b) r).bind fun a r => ((mustP [116, 117, 114, 110]) r).bind fun b r => .ok (a, b) r).bind fun a r => (partP r).bind fun b r => .ok (a, b) r).bind fun a r => ((mustP [112, 108, 97, 121]) r).bind fun b r => .ok (a, b) r).bind fun a r => (paramsP r).bind fun b r => .ok (a, b) r).bind fun a r => (partP r).bind fun b r => .ok (a, b) r).bind fun a r => ((mustP [115, 105, 108, 101, 110, 116]) r).bind fun b r => .ok (a, b) r).bind fun a r => (nameP r).bind fun b r => .ok (a, b) r).bind fun a r => (partP r).bind fun b r => .ok (a, b) r).bind fun a r => ((mustP [112, 97, 121]) r).bind fun b r => .ok (a, b) r).bind fun a r => (partP r).bind fun b r => .ok (a, b) r).bind fun x r => .ok ((fun x : ((((((((((((((((((((Unit) × List UInt8) × Unit) × Int) × Unit) × Int) × List Int) × List Va) × Unit) × List St) × Unit) × List St) × Unit) × List Va) × List St) × Unit) × List UInt8) × List St) × Unit) × List St) => (⟨x.1.1.1.1.1.1.1.1.1.1.1.1.1.1.1.1.1.1.2, x.1.1.1.1.1.1.1.1.1.1.1.1.1.1.1.1.2, x.1.1.1.1.1.1.1.1.1.1.1.1.1.1.2 :: x.1.1.1.1.1.1.1.1.1.1.1.1.1.2, x.1.1.1.1.1.1.1.1.1.1.1.1.2, x.1.1.1.1.1.1.1.1.1.1.2, x.1.1.1.1.1.1.1.1.2, x.1.1.1.1.1.1.2, x.1.1.1.1.1.2, x.1.1.1.2, x.1.1.2, x.2⟩ : Pg)) x) r := by
  by_cases he : er = 0
  · unfold stP
    rw [if_pos he, if_pos he]
    unfold progP
    simp only [PS.bind_assoc, PS.ok_bind]
    all_goals rfl
  · unfold stP
    rw [if_neg he, if_neg he]
    rfl
/-- What append(y.2, list(..)...) leaves. -/
def StkTo (W : World) (g c : Nat) (A : Option Addr) (m : Nat → Nat) (ts : List Tk) (dp : Int) (p : PS (List Int)) (base ya b : Nat) (yc : Value → Array Value) (n0 : Int) (wc : World) : Prop :=
  ∃ (A8 : Option Addr) (n8 c8 : Nat) (zs : List Value) (i' : Nat) (er' : Int), Blk wc ya 48 (yc (.slice A8 (1 + n8) c8)) ∧ Par wc g A c m ts i' dp er' ∧ Kept (fun z => z = g ∨ z = ya ∨ z = b) W wc ∧
    wc.ownsRow base 3 1 (.slice A8 (1 + n8) c8) (1 + n8) ([.int .i64 n0] ++ zs) ∧ n8 ≤ 100000 ∧ PsAt ts i' er' p (fun l => l.length = n8 ∧ ∀ j (h : j < l.length), (zs.drop (j * 1)).take 1 = [.int .i64 (l[j]'h)]) ∧
    ∀ z, (Value.slice A8 (1 + n8) c8).ownBlock = some z → ya < z
theorem stk_mk {w0 W w5 w8 : World} {i0 : Nat} {er0 : Int} {g c : Nat} {A : Option Addr} {m : Nat → Nat} {ts : List Tk} {dp : Int} {p : PS (List Int)} {base ya b : Nat} {yc : Value → Array Value} {n0 : Int} {A8 A5 : Option Addr} {n5 c5 c8 i' : Nat} {er' : Int} {xs5 : List Value}
    (HH : Par w0 g A c m ts i0 dp er0) (K0 : Kept (fun z => z = g) w0 W) (hb0 : w0.heap.size ≤ base) (k5 : Kept (fun z => z = g) W.drew w5) (p5 : Par w5 g A c m ts i' dp er') (ps : PsAt ts i' er' p (fun l => IsRow 1 QI W.drew.heap.size w5 l (.slice A5 n5 c5)))
    (rd : Reads w5 w5.heap.size 1 A5 n5 xs5) (lm : n5 ≤ 100000) (y5 : Blk w5 ya 48 (yc (.slice (some ⟨b, 0, none⟩) 1 1))) (o8 : w8.ownsRow base 3 1 (.slice A8 (1 + n5) c8) (1 + n5) ([.int .i64 n0] ++ xs5))
    (g8 : w5.grownBy w8 (Value.slice (some ⟨b, 0, none⟩) 1 1).ownBlock)
    (at8 : (Value.slice A8 (1 + n5) c8).ownBlock = (Value.slice (some ⟨b, 0, none⟩) 1 1).ownBlock ∨ (Value.slice A8 (1 + n5) c8).ownBlock = some w5.heap.size)
    (hgb : g < base) (hby : base ≤ ya) (hyb : ya < b) (hbW : b < W.heap.size) (hyc : ∀ v v', (yc v).setIfInBounds 2 v' = yc v') :
    StkTo W g c A m ts dp p base ya b yc n0 (w8.setCell ⟨ya, 2, none⟩ (.slice A8 (1 + n5) c8)) := by
  have zd : W.drew.heap.size = W.heap.size := rfl
  have z5 := k5.size
  have k58 : Kept (fun z => z = b) w5 w8 := Kept.of_grown g8 (fun z e => by
    have e := Option.some.inj e
    simp only at e
    exact e.symm)
  have k89 := (Kept.refl (fun z => z = ya) w8).setCell (p := ⟨ya, 2, none⟩) (fun _ => rfl) (.slice A8 (1 + n5) c8)
  have k59 : Kept (fun z => z = ya ∨ z = b) w5 (w8.setCell ⟨ya, 2, none⟩ (.slice A8 (1 + n5) c8)) := (k58.mono (T := fun z => z = ya ∨ z = b) (fun _ _ e => .inr e)).then_ k89 (fun _ _ e => .inl e)
  have z8 := k58.size
  have KW : Kept (fun z => z = g ∨ z = ya ∨ z = b) W (w8.setCell ⟨ya, 2, none⟩ (.slice A8 (1 + n5) c8)) := (((Kept.refl (fun z => z = g ∨ z = ya ∨ z = b) W).drew).then_ k5 (fun _ _ e => .inl e)).then_ k59 (fun _ _ e => .inr e)
  have hown : ∀ z, (Value.slice A8 (1 + n5) c8).ownBlock = some z → ya < z := fun z hz => by
    rcases at8 with h | h
    · rw [h] at hz
      have := Option.some.inj hz
      simp only at this
      omega
    · rw [h] at hz
      have := Option.some.inj hz
      omega
  refine ⟨A8, n5, c8, xs5, i', er', ?_, ?_, KW, ?_, lm, ?_, hown⟩
  · have h := (y5.kept k58 (fun e => by omega)).set_ 2 (.slice A8 (1 + n5) c8)
    rw [hyc] at h
    exact h
  · exact HH.put p5.at_ (p5.blk.kept k59 (fun e => by rcases e with e | e <;> omega)) (K0.then_ KW (fun z hz e => by rcases e with e | e | e <;> omega))
  · exact own_keptS o8 k89 (fun z hz e => by have := hown z hz; omega)
  · refine ps.mono fun l hl => ?_
    obtain ⟨A', n', c', hv, xs', hr, -, hM, hlen, hels⟩ := hl
    injection hv with hv1 hv2 hv3
    subst hv1
    subst hv2
    have := hr.same rd
    subst this
    exact ⟨hlen, hels⟩
set_option maxHeartbeats 4000000 in
set_option maxRecDepth 100000 in
theorem program_any (g c : Nat) (A : Option Addr) (m : Nat → Nat) (ts : List Tk) (i : Nat) (er : Int) (w : World) (h : Par w g A c m ts i 0 er) :
    Calls Tryz.prog 28 #[.pointer (some ⟨g, 0, none⟩)] w (StepTo w g c A m ts 0 (stP progP ts i er) (IsEl PC w.heap.size) ShPg) := by
  have f0 : Below w.heap.size w (w.alloc (.cells #[.string ⟨#[]⟩, .int .i64 0, .slice none 0 0, .slice none 0 0, .slice none 0 0, .slice none 0 0, .slice none 0 0, .slice none 0 0, .string ⟨#[]⟩, .slice none 0 0, .slice none 0 0] 48)) := (Below.refl _ w).al _
  have x0 := Blk.new w 48 #[.string ⟨#[]⟩, .int .i64 0, .slice none 0 0, .slice none 0 0, .slice none 0 0, .slice none 0 0, .slice none 0 0, .slice none 0 0, .string ⟨#[]⟩, .slice none 0 0, .slice none 0 0]
  have hgl := h.blk.lt
  have HH := Lib.hid h
  have P0 := Lib.hid (h.below f0)
  have F0 := Lib.hid f0
  have X0 := Lib.hid x0
  have z0 : (w.alloc (.cells #[.string ⟨#[]⟩, .int .i64 0, .slice none 0 0, .slice none 0 0, .slice none 0 0, .slice none 0 0, .slice none 0 0, .slice none 0 0, .string ⟨#[]⟩, .slice none 0 0, .slice none 0 0] 48)).heap.size = w.heap.size + 1 := by simp
  have K0 := Lib.hid (Kept.of_below (S := fun z => z = g) f0)
  have Mgame := Lib.hid (fun i er w h => must_step g c A m ts i 0 er [103, 97, 109, 101] w h)
  have Mseats := Lib.hid (fun i er w h => must_step g c A m ts i 0 er [115, 101, 97, 116, 115] w h)
  have Mstake := Lib.hid (fun i er w h => must_step g c A m ts i 0 er [115, 116, 97, 107, 101] w h)
  have Mstart := Lib.hid (fun i er w h => must_step g c A m ts i 0 er [115, 116, 97, 114, 116] w h)
  have Mturn := Lib.hid (fun i er w h => must_step g c A m ts i 0 er [116, 117, 114, 110] w h)
  have Mplay := Lib.hid (fun i er w h => must_step g c A m ts i 0 er [112, 108, 97, 121] w h)
  have Msilent := Lib.hid (fun i er w h => must_step g c A m ts i 0 er [115, 105, 108, 101, 110, 116] w h)
  have Mpay := Lib.hid (fun i er w h => must_step g c A m ts i 0 er [112, 97, 121] w h)
  have NM := Lib.hid (fun i er w h => pname_any g c A m ts i 0 er w h)
  have NU := Lib.hid (fun i er w h => pnumber_any g c A m ts i 0 er w h)
  have LI := Lib.hid (fun i er w h => list_ints g c A m ts 0 i er w h)
  have LV := Lib.hid (fun i er w h => list_vars g c A m ts 0 i er w h)
  have PT := Lib.hid (fun i er w h => part_any g c A m ts (stmt_all g c A m ts 16) i er w h)
  have PM := Lib.hid (fun i er w h => parameters_any g c A m ts i 0 er w h)
  rw [prog_st]
  clear h f0 x0
  go_enter Tryz.func28, Tryz.ntmps28
  go_upto_region 1 with fail
  generalize w.alloc (.cells #[.string ⟨#[]⟩, .int .i64 0, .slice none 0 0, .slice none 0 0, .slice none 0 0, .slice none 0 0, .slice none 0 0, .slice none 0 0, .string ⟨#[]⟩, .slice none 0 0, .slice none 0 0] 48) = W0 at *
  have z0w : w.heap.size < W0.heap.size := by omega
  clear z0
  go_upto_region 2 with fail
  have f1 : Below W0.heap.size W0 (W0.alloc (.cells #[.string ⟨#[]⟩, .int .i64 0, .slice none 0 0, .slice none 0 0, .slice none 0 0, .slice none 0 0, .slice none 0 0, .slice none 0 0, .string ⟨#[]⟩, .slice none 0 0, .slice none 0 0] 48)) := (Below.refl _ _).al _
  have Y1 := Lib.hid (Blk.new W0 48 #[.string ⟨#[]⟩, .int .i64 0, .slice none 0 0, .slice none 0 0, .slice none 0 0, .slice none 0 0, .slice none 0 0, .slice none 0 0, .string ⟨#[]⟩, .slice none 0 0, .slice none 0 0])
  have P1 := Lib.hid (P0.out.below f1)
  have X1 := Lib.hid (X0.out.below f1 X0.out.lt)
  have K1 := Lib.hid (K0.out.then_ (Kept.of_below (S := fun z => z = g) f1) (fun _ _ e => e))
  have J1 := Lib.hid (Kept.of_below (S := fun z => z = g) f1)
  have z1 : (W0.alloc (.cells #[.string ⟨#[]⟩, .int .i64 0, .slice none 0 0, .slice none 0 0, .slice none 0 0, .slice none 0 0, .slice none 0 0, .slice none 0 0, .string ⟨#[]⟩, .slice none 0 0, .slice none 0 0] 48)).heap.size = W0.heap.size + 1 := by simp
  have xl1 := X0.out.lt
  clear f1 K0 P0 X0
  generalize W0.alloc (.cells #[.string ⟨#[]⟩, .int .i64 0, .slice none 0 0, .slice none 0 0, .slice none 0 0, .slice none 0 0, .slice none 0 0, .slice none 0 0, .string ⟨#[]⟩, .slice none 0 0, .slice none 0 0] 48) = W1 at *
  go_wp2_with fail
  refine (Mgame.out i er W1 P1.out).mono ?_
  rintro e w2 ⟨v2, rfl, k2, rfl, i2, er2, p2, ps2⟩
  have z2 := k2.size
  have X2 := Lib.hid (X1.out.kept k2 (by omega))
  have Y2 := Lib.hid (Y1.out.kept k2 (by omega))
  have K2 := Lib.hid (K1.out.then_ k2 (fun _ _ e => e))
  have P2 := Lib.hid p2
  have PS2 := Lib.hid ps2
  have J2 := Lib.hid k2
  clear p2 k2 ps2 K1 P1 X1 Y1
  go_wp2_with fail
  refine (NM.out i2 er2 w2 P2.out).mono ?_
  rintro e w3 ⟨v3, rfl, k3, ⟨s3, rfl⟩, i3, er3, p3, ps3⟩
  have z3 := k3.size
  have X3 := Lib.hid (X2.out.kept k3 (by omega))
  have Y3 := Lib.hid (Y2.out.kept k3 (by omega))
  have K3 := Lib.hid (K2.out.then_ k3 (fun _ _ e => e))
  have P3 := Lib.hid p3
  have PS3 := Lib.hid (PS2.out.then_ ps3)
  have J3 := Lib.hid k3
  clear p3 k3 ps3 K2 P2 X2 Y2 PS2
  have fz : w3.frozen? ⟨W0.heap.size, 0, none⟩ = false := Y3.out.frozen 0
  have ez : w3.cell? ⟨W0.heap.size, 0, none⟩ = some (.string ⟨#[]⟩) := Y3.out.cell 0
  go_wp2_with fail
  have k4 := (Kept.refl (fun z => z = W0.heap.size) w3).setCell (p := ⟨W0.heap.size, 0, none⟩) (fun _ => rfl) (.string s3)
  have Y4 : Hid (Blk (w3.setCell ⟨W0.heap.size, 0, none⟩ (.string s3)) (W0.heap.size) 48 #[.string s3, .int .i64 0, .slice none 0 0, .slice none 0 0, .slice none 0 0, .slice none 0 0, .slice none 0 0, .slice none 0 0, .string ⟨#[]⟩, .slice none 0 0, .slice none 0 0]) := Y3.out.set_ 0 (.string s3)
  have X4 := Lib.hid (X3.out.kept k4 (by omega))
  have K4 := Lib.hid (K3.out.then_ k4 (fun z hz e => by omega))
  have P4 := Lib.hid (HH.out.put P3.out.at_ (P3.out.blk.kept k4 (by omega)) K4.out)
  have J4 := Lib.hid k4
  have z4 := k4.size
  clear k4 Y3 X3 K3 P3
  generalize w3.setCell ⟨W0.heap.size, 0, none⟩ (.string s3) = W4 at *
  clear fz ez
  refine (Mseats.out i3 er3 W4 P4.out).mono ?_
  rintro e w5 ⟨v5, rfl, k5, rfl, i5, er5, p5, ps5⟩
  have z5 := k5.size
  have X5 := Lib.hid (X4.out.kept k5 (by omega))
  have Y5 := Lib.hid (Y4.out.kept k5 (by omega))
  have K5 := Lib.hid (K4.out.then_ k5 (fun _ _ e => e))
  have P5 := Lib.hid p5
  have PS5 := Lib.hid (PS3.out.then_ ps5)
  have J5 := Lib.hid k5
  clear p5 k5 ps5 K4 P4 X4 Y4 PS3
  go_wp2_with fail
  refine (NU.out i5 er5 w5 P5.out).mono ?_
  rintro e w6 ⟨v6, rfl, k6, ⟨n6, rfl⟩, i6, er6, p6, ps6⟩
  have z6 := k6.size
  have X6 := Lib.hid (X5.out.kept k6 (by omega))
  have Y6 := Lib.hid (Y5.out.kept k6 (by omega))
  have K6 := Lib.hid (K5.out.then_ k6 (fun _ _ e => e))
  have P6 := Lib.hid p6
  have PS6 := Lib.hid (PS5.out.then_ ps6)
  have J6 := Lib.hid k6
  clear p6 k6 ps6 K5 P5 X5 Y5 PS5
  have fz : w6.frozen? ⟨W0.heap.size, 1, none⟩ = false := Y6.out.frozen 1
  have ez : w6.cell? ⟨W0.heap.size, 1, none⟩ = some (.int .i64 0) := Y6.out.cell 1
  go_wp2_with fail
  have k7 := (Kept.refl (fun z => z = W0.heap.size) w6).setCell (p := ⟨W0.heap.size, 1, none⟩) (fun _ => rfl) (.int .i64 n6)
  have Y7 : Hid (Blk (w6.setCell ⟨W0.heap.size, 1, none⟩ (.int .i64 n6)) (W0.heap.size) 48 #[.string s3, .int .i64 n6, .slice none 0 0, .slice none 0 0, .slice none 0 0, .slice none 0 0, .slice none 0 0, .slice none 0 0, .string ⟨#[]⟩, .slice none 0 0, .slice none 0 0]) := Y6.out.set_ 1 (.int .i64 n6)
  have X7 := Lib.hid (X6.out.kept k7 (by omega))
  have K7 := Lib.hid (K6.out.then_ k7 (fun z hz e => by omega))
  have P7 := Lib.hid (HH.out.put P6.out.at_ (P6.out.blk.kept k7 (by omega)) K7.out)
  have J7 := Lib.hid k7
  have z7 := k7.size
  clear k7 Y6 X6 K6 P6
  generalize w6.setCell ⟨W0.heap.size, 1, none⟩ (.int .i64 n6) = W7 at *
  clear fz ez
  refine (Mstake.out i6 er6 W7 P7.out).mono ?_
  rintro e w8 ⟨v8, rfl, k8, rfl, i8, er8, p8, ps8⟩
  have z8 := k8.size
  have X8 := Lib.hid (X7.out.kept k8 (by omega))
  have Y8 := Lib.hid (Y7.out.kept k8 (by omega))
  have K8 := Lib.hid (K7.out.then_ k8 (fun _ _ e => e))
  have P8 := Lib.hid p8
  have PS8 := Lib.hid (PS6.out.then_ ps8)
  have J8 := Lib.hid k8
  clear p8 k8 ps8 K7 P7 X7 Y7 PS6
  go_wp2_with fail
  refine (NU.out i8 er8 w8 P8.out).mono ?_
  rintro e w9 ⟨v9, rfl, k9, ⟨n9, rfl⟩, i9, er9, p9, ps9⟩
  have z9 := k9.size
  have X9 := Lib.hid (X8.out.kept k9 (by omega))
  have Y9 := Lib.hid (Y8.out.kept k9 (by omega))
  have K9 := Lib.hid (K8.out.then_ k9 (fun _ _ e => e))
  have P9 := Lib.hid p9
  have PS9 := Lib.hid (PS8.out.then_ ps9)
  have J9 := Lib.hid k9
  clear p9 k9 ps9 K8 P8 X8 Y8 PS8
  have fz : (w9.alloc (.cells #[.int .i64 n9] 3)).frozen? ⟨W0.heap.size, 2, none⟩ = false := (Y9.out.alloc _).frozen 2
  have ez : (w9.alloc (.cells #[.int .i64 n9] 3)).cell? ⟨W0.heap.size, 2, none⟩ = some (.slice none 0 0) := (Y9.out.alloc _).cell 2
  go_upto_region 8 with fail
  change Code.wp _ _ _ _ ((w9.alloc (.cells #[.int .i64 n9] 3)).setCell ⟨W0.heap.size, 2, none⟩ (.slice (some ⟨w9.heap.size, 0, none⟩) 1 1))
  clear fz ez
  have ka10 := ((Kept.refl (fun z => z = W0.heap.size) w9).alloc (.cells #[.int .i64 n9] 3)).setCell (p := ⟨W0.heap.size, 2, none⟩) (fun _ => rfl) (.slice (some ⟨w9.heap.size, 0, none⟩) 1 1)
  have yl10 := Y9.out.lt
  have B10 : Hid (Blk ((w9.alloc (.cells #[.int .i64 n9] 3)).setCell ⟨W0.heap.size, 2, none⟩ (.slice (some ⟨w9.heap.size, 0, none⟩) 1 1)) (w9.heap.size) 3 #[.int .i64 n9]) := (Blk.new w9 3 #[.int .i64 n9]).far (by show w9.heap.size ≠ W0.heap.size; omega) _
  have Y10 : Hid (Blk ((w9.alloc (.cells #[.int .i64 n9] 3)).setCell ⟨W0.heap.size, 2, none⟩ (.slice (some ⟨w9.heap.size, 0, none⟩) 1 1)) (W0.heap.size) 48 #[.string s3, .int .i64 n6, .slice (some ⟨w9.heap.size, 0, none⟩) 1 1, .slice none 0 0, .slice none 0 0, .slice none 0 0, .slice none 0 0, .slice none 0 0, .string ⟨#[]⟩, .slice none 0 0, .slice none 0 0]) := (Y9.out.alloc _).set_ 2 (.slice (some ⟨w9.heap.size, 0, none⟩) 1 1)
  have X10 := Lib.hid (X9.out.kept ka10 (by omega))
  have K10 := Lib.hid (K9.out.then_ ka10 (fun z hz e => by omega))
  have P10 := Lib.hid (HH.out.put P9.out.at_ (P9.out.blk.kept ka10 (by omega)) K10.out)
  have J10 := Lib.hid ka10
  have z10 : ((w9.alloc (.cells #[.int .i64 n9] 3)).setCell ⟨W0.heap.size, 2, none⟩ (.slice (some ⟨w9.heap.size, 0, none⟩) 1 1)).heap.size = w9.heap.size + 1 := by simp [World.setCell]
  clear ka10 K9 P9 X9 Y9
  generalize ((w9.alloc (.cells #[.int .i64 n9] 3)).setCell ⟨W0.heap.size, 2, none⟩ (.slice (some ⟨w9.heap.size, 0, none⟩) 1 1)) = W10 at *
  have O11 : Hid (W10.drew.ownsRow w.heap.size 3 1 (.slice (some ⟨w9.heap.size, 0, none⟩) 1 1) 1 [.int .i64 n9]) := own_one B10.out.drew rfl (by omega)
  have fw11 : W10.drew.frozen? ⟨W0.heap.size, 2, none⟩ = false := Y10.out.frozen 2
  have qw11 : W10.drew.cell? ⟨W0.heap.size, 2, none⟩ = some (.slice (some ⟨w9.heap.size, 0, none⟩) 1 1) := Y10.out.cell 2
  have PD11 := Lib.hid (P10.out.below (Below.refl _ W10).drew)
  have CL11 := Lib.hid (LI.out i9 er9 W10.drew PD11.out)
  have zd11 : W10.drew.heap.size = W10.heap.size := rfl
  have YD11 := Lib.hid (Y10.out.drew)
  obtain ⟨j0, hj0, hy0, hy1, hy2⟩ := info_parts info_listI
  go_cut [] (fun wc => Hid (StkTo W10 g c A m ts 0 (stP intsP ts i9 er9) w.heap.size (W0.heap.size) (w9.heap.size) (fun v : Value => #[.string s3, .int .i64 n6, v, .slice none 0 0, .slice none 0 0, .slice none 0 0, .slice none 0 0, .slice none 0 0, .string ⟨#[]⟩, .slice none 0 0, .slice none 0 0]) n9 wc))
  case first =>
    go_region_law
      (first
        | (refine step_append_any _ (by rfl) (.tmp 21) (.tmp 26) _ (by rfl) w.heap.size 3 j0 _ 1 8 Tryz.underlying30 hj0 hy0 hy1 hy2 rfl (by omega) (.slice (some ⟨w9.heap.size, 0, none⟩) 1 1) 1 [.int .i64 n9] (by rfl) o11.out _ _ l11 q11 xs11 (by rfl) RD11.out ON11.out (by unfold maxLen; omega) (by omega) (by omega) ?_; intro u11 x11 r11 g11 t11; obtain ⟨A8, c8, rfl, hb8⟩ := own_is r11; have yz11 := y11.kept (Kept.of_grown (S := fun z => z = w9.heap.size) g11 (fun z e => by have e := Option.some.inj e; simp only at e; omega)) (fun e => by omega); have qz11 := yz11.cell 2; have fz11 := yz11.frozen 2; have R11 := Lib.hid r11; have G11 := Lib.hid g11; have T11 := Lib.hid t11; clear r11 g11 t11)
        | (go_simp; go_at_call 58; (with_reducible refine CL11.out.mono ?_); rintro e w11 ⟨v11, rfl, k11, ⟨A11, l11, q11, xs11, rfl, rd11, on11, lm11⟩, i11, er11, p11, ps11⟩; have y11 := YD11.out.kept k11 (by omega); have qy11 : w11.cell? ⟨W0.heap.size, 2, none⟩ = some (.slice (some ⟨w9.heap.size, 0, none⟩) 1 1) := y11.cell 2; have fy11 := y11.frozen 2; have z11 := k11.size; have o11 := Lib.hid (own_keptS O11.out k11 (fun z e => by have e := Option.some.inj e; simp only at e; omega)); have RD11 := Lib.hid rd11; have ON11 := Lib.hid on11; have K11 := Lib.hid k11; have P11 := Lib.hid p11; have PS11 := Lib.hid ps11; clear p11 ps11 k11 rd11 on11))
    all_goals
      go_wp2_with fail
      go_meet
      case rel => exact stk_mk (yc := (fun v : Value => #[.string s3, .int .i64 n6, v, .slice none 0 0, .slice none 0 0, .slice none 0 0, .slice none 0 0, .slice none 0 0, .string ⟨#[]⟩, .slice none 0 0, .slice none 0 0])) HH.out K10.out (Nat.le_refl _) K11.out P11.out PS11.out RD11.out lm11 y11 R11.out G11.out T11.out (by omega) (by omega) (by omega) (by omega) (fun _ _ => rfl)
  case rest =>
  obtain ⟨A11, l11, c11, zs11, i11, er11, y11, p11, k11, o11, lm11, ps11, hb11⟩ := hcut.out
  obtain ⟨w11, rfl⟩ : ∃ x, x = wc := ⟨_, rfl⟩
  clear hcut CL11 PD11 YD11 O11 fw11 qw11 hj0 hy0 hy1 hy2
  have z11 := k11.size
  have Y11 : Hid (Blk w11 (W0.heap.size) 48 #[.string s3, .int .i64 n6, .slice A11 (1 + l11) c11, .slice none 0 0, .slice none 0 0, .slice none 0 0, .slice none 0 0, .slice none 0 0, .string ⟨#[]⟩, .slice none 0 0, .slice none 0 0]) := y11
  have X11 := Lib.hid (X10.out.kept k11 (fun e => by rcases e with e | e | e <;> omega))
  have K11 := Lib.hid (K10.out.then_ k11 (fun z hz e => by rcases e with e | e | e <;> omega))
  have P11 := Lib.hid p11
  have PS11 := Lib.hid (PS9.out.then_ ps11)
  have J11 := Lib.hid k11
  have OS := Lib.hid o11
  have HBS := Lib.hid hb11
  have hols := Lib.hid (own_lt o11)
  clear p11 k11 ps11 y11 o11 hb11 K10 P10 X10 Y10 PS9
  go_wp2_with fail
  refine (LV.out i11 er11 w11 P11.out).mono ?_
  rintro e w12 ⟨v12, rfl, k12, ⟨A12, l12, q12, xs12, rfl, rd12, on12, lm12⟩, i12, er12, p12, ps12⟩
  have z12 := k12.size
  have X12 := Lib.hid (X11.out.kept k12 (by omega))
  have Y12 := Lib.hid (Y11.out.kept k12 (by omega))
  have K12 := Lib.hid (K11.out.then_ k12 (fun _ _ e => e))
  have P12 := Lib.hid p12
  have PS12 := Lib.hid (PS11.out.then_ ps12)
  have J12 := Lib.hid k12
  clear p12 k12 ps12 K11 P11 X11 Y11 PS11
  clear rd12 on12
  have fz : w12.frozen? ⟨W0.heap.size, 3, none⟩ = false := Y12.out.frozen 3
  have ez : w12.cell? ⟨W0.heap.size, 3, none⟩ = some (.slice none 0 0) := Y12.out.cell 3
  go_wp2_with fail
  have k13 := (Kept.refl (fun z => z = W0.heap.size) w12).setCell (p := ⟨W0.heap.size, 3, none⟩) (fun _ => rfl) (.slice A12 l12 q12)
  have Y13 : Hid (Blk (w12.setCell ⟨W0.heap.size, 3, none⟩ (.slice A12 l12 q12)) (W0.heap.size) 48 #[.string s3, .int .i64 n6, .slice A11 (1 + l11) c11, .slice A12 l12 q12, .slice none 0 0, .slice none 0 0, .slice none 0 0, .slice none 0 0, .string ⟨#[]⟩, .slice none 0 0, .slice none 0 0]) := Y12.out.set_ 3 (.slice A12 l12 q12)
  have X13 := Lib.hid (X12.out.kept k13 (by omega))
  have K13 := Lib.hid (K12.out.then_ k13 (fun z hz e => by omega))
  have P13 := Lib.hid (HH.out.put P12.out.at_ (P12.out.blk.kept k13 (by omega)) K13.out)
  have J13 := Lib.hid k13
  have z13 := k13.size
  clear k13 Y12 X12 K12 P12
  generalize w12.setCell ⟨W0.heap.size, 3, none⟩ (.slice A12 l12 q12) = W13 at *
  clear fz ez
  refine (Mstart.out i12 er12 W13 P13.out).mono ?_
  rintro e w14 ⟨v14, rfl, k14, rfl, i14, er14, p14, ps14⟩
  have z14 := k14.size
  have X14 := Lib.hid (X13.out.kept k14 (by omega))
  have Y14 := Lib.hid (Y13.out.kept k14 (by omega))
  have K14 := Lib.hid (K13.out.then_ k14 (fun _ _ e => e))
  have P14 := Lib.hid p14
  have PS14 := Lib.hid (PS12.out.then_ ps14)
  have J14 := Lib.hid k14
  clear p14 k14 ps14 K13 P13 X13 Y13 PS12
  go_wp2_with fail
  refine (PT.out i14 er14 w14 P14.out).mono ?_
  rintro e w15 ⟨v15, rfl, k15, ⟨A15, l15, q15, rfl⟩, i15, er15, p15, ps15⟩
  have z15 := k15.size
  have X15 := Lib.hid (X14.out.kept k15 (by omega))
  have Y15 := Lib.hid (Y14.out.kept k15 (by omega))
  have K15 := Lib.hid (K14.out.then_ k15 (fun _ _ e => e))
  have P15 := Lib.hid p15
  have PS15 := Lib.hid (PS14.out.then_ ps15)
  have J15 := Lib.hid k15
  clear p15 k15 ps15 K14 P14 X14 Y14 PS14
  have fz : w15.frozen? ⟨W0.heap.size, 4, none⟩ = false := Y15.out.frozen 4
  have ez : w15.cell? ⟨W0.heap.size, 4, none⟩ = some (.slice none 0 0) := Y15.out.cell 4
  go_wp2_with fail
  have k16 := (Kept.refl (fun z => z = W0.heap.size) w15).setCell (p := ⟨W0.heap.size, 4, none⟩) (fun _ => rfl) (.slice A15 l15 q15)
  have Y16 : Hid (Blk (w15.setCell ⟨W0.heap.size, 4, none⟩ (.slice A15 l15 q15)) (W0.heap.size) 48 #[.string s3, .int .i64 n6, .slice A11 (1 + l11) c11, .slice A12 l12 q12, .slice A15 l15 q15, .slice none 0 0, .slice none 0 0, .slice none 0 0, .string ⟨#[]⟩, .slice none 0 0, .slice none 0 0]) := Y15.out.set_ 4 (.slice A15 l15 q15)
  have X16 := Lib.hid (X15.out.kept k16 (by omega))
  have K16 := Lib.hid (K15.out.then_ k16 (fun z hz e => by omega))
  have P16 := Lib.hid (HH.out.put P15.out.at_ (P15.out.blk.kept k16 (by omega)) K16.out)
  have J16 := Lib.hid k16
  have z16 := k16.size
  clear k16 Y15 X15 K15 P15
  generalize w15.setCell ⟨W0.heap.size, 4, none⟩ (.slice A15 l15 q15) = W16 at *
  clear fz ez
  refine (Mturn.out i15 er15 W16 P16.out).mono ?_
  rintro e w17 ⟨v17, rfl, k17, rfl, i17, er17, p17, ps17⟩
  have z17 := k17.size
  have X17 := Lib.hid (X16.out.kept k17 (by omega))
  have Y17 := Lib.hid (Y16.out.kept k17 (by omega))
  have K17 := Lib.hid (K16.out.then_ k17 (fun _ _ e => e))
  have P17 := Lib.hid p17
  have PS17 := Lib.hid (PS15.out.then_ ps17)
  have J17 := Lib.hid k17
  clear p17 k17 ps17 K16 P16 X16 Y16 PS15
  go_wp2_with fail
  refine (PT.out i17 er17 w17 P17.out).mono ?_
  rintro e w18 ⟨v18, rfl, k18, ⟨A18, l18, q18, rfl⟩, i18, er18, p18, ps18⟩
  have z18 := k18.size
  have X18 := Lib.hid (X17.out.kept k18 (by omega))
  have Y18 := Lib.hid (Y17.out.kept k18 (by omega))
  have K18 := Lib.hid (K17.out.then_ k18 (fun _ _ e => e))
  have P18 := Lib.hid p18
  have PS18 := Lib.hid (PS17.out.then_ ps18)
  have J18 := Lib.hid k18
  clear p18 k18 ps18 K17 P17 X17 Y17 PS17
  have fz : w18.frozen? ⟨W0.heap.size, 5, none⟩ = false := Y18.out.frozen 5
  have ez : w18.cell? ⟨W0.heap.size, 5, none⟩ = some (.slice none 0 0) := Y18.out.cell 5
  go_wp2_with fail
  have k19 := (Kept.refl (fun z => z = W0.heap.size) w18).setCell (p := ⟨W0.heap.size, 5, none⟩) (fun _ => rfl) (.slice A18 l18 q18)
  have Y19 : Hid (Blk (w18.setCell ⟨W0.heap.size, 5, none⟩ (.slice A18 l18 q18)) (W0.heap.size) 48 #[.string s3, .int .i64 n6, .slice A11 (1 + l11) c11, .slice A12 l12 q12, .slice A15 l15 q15, .slice A18 l18 q18, .slice none 0 0, .slice none 0 0, .string ⟨#[]⟩, .slice none 0 0, .slice none 0 0]) := Y18.out.set_ 5 (.slice A18 l18 q18)
  have X19 := Lib.hid (X18.out.kept k19 (by omega))
  have K19 := Lib.hid (K18.out.then_ k19 (fun z hz e => by omega))
  have P19 := Lib.hid (HH.out.put P18.out.at_ (P18.out.blk.kept k19 (by omega)) K19.out)
  have J19 := Lib.hid k19
  have z19 := k19.size
  clear k19 Y18 X18 K18 P18
  generalize w18.setCell ⟨W0.heap.size, 5, none⟩ (.slice A18 l18 q18) = W19 at *
  clear fz ez
  refine (Mplay.out i18 er18 W19 P19.out).mono ?_
  rintro e w20 ⟨v20, rfl, k20, rfl, i20, er20, p20, ps20⟩
  have z20 := k20.size
  have X20 := Lib.hid (X19.out.kept k20 (by omega))
  have Y20 := Lib.hid (Y19.out.kept k20 (by omega))
  have K20 := Lib.hid (K19.out.then_ k20 (fun _ _ e => e))
  have P20 := Lib.hid p20
  have PS20 := Lib.hid (PS18.out.then_ ps20)
  have J20 := Lib.hid k20
  clear p20 k20 ps20 K19 P19 X19 Y19 PS18
  go_wp2_with fail
  refine (PM.out i20 er20 w20 P20.out).mono ?_
  rintro e w21 ⟨v21, rfl, k21, ⟨A21, l21, q21, rfl⟩, i21, er21, p21, ps21⟩
  have z21 := k21.size
  have X21 := Lib.hid (X20.out.kept k21 (by omega))
  have Y21 := Lib.hid (Y20.out.kept k21 (by omega))
  have K21 := Lib.hid (K20.out.then_ k21 (fun _ _ e => e))
  have P21 := Lib.hid p21
  have PS21 := Lib.hid (PS20.out.then_ ps21)
  have J21 := Lib.hid k21
  clear p21 k21 ps21 K20 P20 X20 Y20 PS20
  have fz : w21.frozen? ⟨W0.heap.size, 6, none⟩ = false := Y21.out.frozen 6
  have ez : w21.cell? ⟨W0.heap.size, 6, none⟩ = some (.slice none 0 0) := Y21.out.cell 6
  go_wp2_with fail
  have k22 := (Kept.refl (fun z => z = W0.heap.size) w21).setCell (p := ⟨W0.heap.size, 6, none⟩) (fun _ => rfl) (.slice A21 l21 q21)
  have Y22 : Hid (Blk (w21.setCell ⟨W0.heap.size, 6, none⟩ (.slice A21 l21 q21)) (W0.heap.size) 48 #[.string s3, .int .i64 n6, .slice A11 (1 + l11) c11, .slice A12 l12 q12, .slice A15 l15 q15, .slice A18 l18 q18, .slice A21 l21 q21, .slice none 0 0, .string ⟨#[]⟩, .slice none 0 0, .slice none 0 0]) := Y21.out.set_ 6 (.slice A21 l21 q21)
  have X22 := Lib.hid (X21.out.kept k22 (by omega))
  have K22 := Lib.hid (K21.out.then_ k22 (fun z hz e => by omega))
  have P22 := Lib.hid (HH.out.put P21.out.at_ (P21.out.blk.kept k22 (by omega)) K22.out)
  have J22 := Lib.hid k22
  have z22 := k22.size
  clear k22 Y21 X21 K21 P21
  generalize w21.setCell ⟨W0.heap.size, 6, none⟩ (.slice A21 l21 q21) = W22 at *
  clear fz ez
  refine (PT.out i21 er21 W22 P22.out).mono ?_
  rintro e w23 ⟨v23, rfl, k23, ⟨A23, l23, q23, rfl⟩, i23, er23, p23, ps23⟩
  have z23 := k23.size
  have X23 := Lib.hid (X22.out.kept k23 (by omega))
  have Y23 := Lib.hid (Y22.out.kept k23 (by omega))
  have K23 := Lib.hid (K22.out.then_ k23 (fun _ _ e => e))
  have P23 := Lib.hid p23
  have PS23 := Lib.hid (PS21.out.then_ ps23)
  have J23 := Lib.hid k23
  clear p23 k23 ps23 K22 P22 X22 Y22 PS21
  have fz : w23.frozen? ⟨W0.heap.size, 7, none⟩ = false := Y23.out.frozen 7
  have ez : w23.cell? ⟨W0.heap.size, 7, none⟩ = some (.slice none 0 0) := Y23.out.cell 7
  go_wp2_with fail
  have k24 := (Kept.refl (fun z => z = W0.heap.size) w23).setCell (p := ⟨W0.heap.size, 7, none⟩) (fun _ => rfl) (.slice A23 l23 q23)
  have Y24 : Hid (Blk (w23.setCell ⟨W0.heap.size, 7, none⟩ (.slice A23 l23 q23)) (W0.heap.size) 48 #[.string s3, .int .i64 n6, .slice A11 (1 + l11) c11, .slice A12 l12 q12, .slice A15 l15 q15, .slice A18 l18 q18, .slice A21 l21 q21, .slice A23 l23 q23, .string ⟨#[]⟩, .slice none 0 0, .slice none 0 0]) := Y23.out.set_ 7 (.slice A23 l23 q23)
  have X24 := Lib.hid (X23.out.kept k24 (by omega))
  have K24 := Lib.hid (K23.out.then_ k24 (fun z hz e => by omega))
  have P24 := Lib.hid (HH.out.put P23.out.at_ (P23.out.blk.kept k24 (by omega)) K24.out)
  have J24 := Lib.hid k24
  have z24 := k24.size
  clear k24 Y23 X23 K23 P23
  generalize w23.setCell ⟨W0.heap.size, 7, none⟩ (.slice A23 l23 q23) = W24 at *
  clear fz ez
  refine (Msilent.out i23 er23 W24 P24.out).mono ?_
  rintro e w25 ⟨v25, rfl, k25, rfl, i25, er25, p25, ps25⟩
  have z25 := k25.size
  have X25 := Lib.hid (X24.out.kept k25 (by omega))
  have Y25 := Lib.hid (Y24.out.kept k25 (by omega))
  have K25 := Lib.hid (K24.out.then_ k25 (fun _ _ e => e))
  have P25 := Lib.hid p25
  have PS25 := Lib.hid (PS23.out.then_ ps25)
  have J25 := Lib.hid k25
  clear p25 k25 ps25 K24 P24 X24 Y24 PS23
  go_wp2_with fail
  refine (NM.out i25 er25 w25 P25.out).mono ?_
  rintro e w26 ⟨v26, rfl, k26, ⟨s26, rfl⟩, i26, er26, p26, ps26⟩
  have z26 := k26.size
  have X26 := Lib.hid (X25.out.kept k26 (by omega))
  have Y26 := Lib.hid (Y25.out.kept k26 (by omega))
  have K26 := Lib.hid (K25.out.then_ k26 (fun _ _ e => e))
  have P26 := Lib.hid p26
  have PS26 := Lib.hid (PS25.out.then_ ps26)
  have J26 := Lib.hid k26
  clear p26 k26 ps26 K25 P25 X25 Y25 PS25
  have fz : w26.frozen? ⟨W0.heap.size, 8, none⟩ = false := Y26.out.frozen 8
  have ez : w26.cell? ⟨W0.heap.size, 8, none⟩ = some (.string ⟨#[]⟩) := Y26.out.cell 8
  go_wp2_with fail
  have k27 := (Kept.refl (fun z => z = W0.heap.size) w26).setCell (p := ⟨W0.heap.size, 8, none⟩) (fun _ => rfl) (.string s26)
  have Y27 : Hid (Blk (w26.setCell ⟨W0.heap.size, 8, none⟩ (.string s26)) (W0.heap.size) 48 #[.string s3, .int .i64 n6, .slice A11 (1 + l11) c11, .slice A12 l12 q12, .slice A15 l15 q15, .slice A18 l18 q18, .slice A21 l21 q21, .slice A23 l23 q23, .string s26, .slice none 0 0, .slice none 0 0]) := Y26.out.set_ 8 (.string s26)
  have X27 := Lib.hid (X26.out.kept k27 (by omega))
  have K27 := Lib.hid (K26.out.then_ k27 (fun z hz e => by omega))
  have P27 := Lib.hid (HH.out.put P26.out.at_ (P26.out.blk.kept k27 (by omega)) K27.out)
  have J27 := Lib.hid k27
  have z27 := k27.size
  clear k27 Y26 X26 K26 P26
  generalize w26.setCell ⟨W0.heap.size, 8, none⟩ (.string s26) = W27 at *
  clear fz ez
  refine (PT.out i26 er26 W27 P27.out).mono ?_
  rintro e w28 ⟨v28, rfl, k28, ⟨A28, l28, q28, rfl⟩, i28, er28, p28, ps28⟩
  have z28 := k28.size
  have X28 := Lib.hid (X27.out.kept k28 (by omega))
  have Y28 := Lib.hid (Y27.out.kept k28 (by omega))
  have K28 := Lib.hid (K27.out.then_ k28 (fun _ _ e => e))
  have P28 := Lib.hid p28
  have PS28 := Lib.hid (PS26.out.then_ ps28)
  have J28 := Lib.hid k28
  clear p28 k28 ps28 K27 P27 X27 Y27 PS26
  have fz : w28.frozen? ⟨W0.heap.size, 9, none⟩ = false := Y28.out.frozen 9
  have ez : w28.cell? ⟨W0.heap.size, 9, none⟩ = some (.slice none 0 0) := Y28.out.cell 9
  go_wp2_with fail
  have k29 := (Kept.refl (fun z => z = W0.heap.size) w28).setCell (p := ⟨W0.heap.size, 9, none⟩) (fun _ => rfl) (.slice A28 l28 q28)
  have Y29 : Hid (Blk (w28.setCell ⟨W0.heap.size, 9, none⟩ (.slice A28 l28 q28)) (W0.heap.size) 48 #[.string s3, .int .i64 n6, .slice A11 (1 + l11) c11, .slice A12 l12 q12, .slice A15 l15 q15, .slice A18 l18 q18, .slice A21 l21 q21, .slice A23 l23 q23, .string s26, .slice A28 l28 q28, .slice none 0 0]) := Y28.out.set_ 9 (.slice A28 l28 q28)
  have X29 := Lib.hid (X28.out.kept k29 (by omega))
  have K29 := Lib.hid (K28.out.then_ k29 (fun z hz e => by omega))
  have P29 := Lib.hid (HH.out.put P28.out.at_ (P28.out.blk.kept k29 (by omega)) K29.out)
  have J29 := Lib.hid k29
  have z29 := k29.size
  clear k29 Y28 X28 K28 P28
  generalize w28.setCell ⟨W0.heap.size, 9, none⟩ (.slice A28 l28 q28) = W29 at *
  clear fz ez
  refine (Mpay.out i28 er28 W29 P29.out).mono ?_
  rintro e w30 ⟨v30, rfl, k30, rfl, i30, er30, p30, ps30⟩
  have z30 := k30.size
  have X30 := Lib.hid (X29.out.kept k30 (by omega))
  have Y30 := Lib.hid (Y29.out.kept k30 (by omega))
  have K30 := Lib.hid (K29.out.then_ k30 (fun _ _ e => e))
  have P30 := Lib.hid p30
  have PS30 := Lib.hid (PS28.out.then_ ps30)
  have J30 := Lib.hid k30
  clear p30 k30 ps30 K29 P29 X29 Y29 PS28
  go_wp2_with fail
  refine (PT.out i30 er30 w30 P30.out).mono ?_
  rintro e w31 ⟨v31, rfl, k31, ⟨A31, l31, q31, rfl⟩, i31, er31, p31, ps31⟩
  have z31 := k31.size
  have X31 := Lib.hid (X30.out.kept k31 (by omega))
  have Y31 := Lib.hid (Y30.out.kept k31 (by omega))
  have K31 := Lib.hid (K30.out.then_ k31 (fun _ _ e => e))
  have P31 := Lib.hid p31
  have PS31 := Lib.hid (PS30.out.then_ ps31)
  have J31 := Lib.hid k31
  clear p31 k31 ps31 K30 P30 X30 Y30 PS30
  have fz : w31.frozen? ⟨W0.heap.size, 10, none⟩ = false := Y31.out.frozen 10
  have ez : w31.cell? ⟨W0.heap.size, 10, none⟩ = some (.slice none 0 0) := Y31.out.cell 10
  go_upto_region 22 with fail
  have k32 := (Kept.refl (fun z => z = W0.heap.size) w31).setCell (p := ⟨W0.heap.size, 10, none⟩) (fun _ => rfl) (.slice A31 l31 q31)
  have Y32 : Hid (Blk (w31.setCell ⟨W0.heap.size, 10, none⟩ (.slice A31 l31 q31)) (W0.heap.size) 48 #[.string s3, .int .i64 n6, .slice A11 (1 + l11) c11, .slice A12 l12 q12, .slice A15 l15 q15, .slice A18 l18 q18, .slice A21 l21 q21, .slice A23 l23 q23, .string s26, .slice A28 l28 q28, .slice A31 l31 q31]) := Y31.out.set_ 10 (.slice A31 l31 q31)
  have X32 := Lib.hid (X31.out.kept k32 (by omega))
  have K32 := Lib.hid (K31.out.then_ k32 (fun z hz e => by omega))
  have P32 := Lib.hid (HH.out.put P31.out.at_ (P31.out.blk.kept k32 (by omega)) K32.out)
  have J32 := Lib.hid k32
  have z32 := k32.size
  clear k32 Y31 X31 K31 P31
  generalize w31.setCell ⟨W0.heap.size, 10, none⟩ (.slice A31 l31 q31) = W32 at *
  clear fz ez
  have qc0 : W32.cell? ⟨W0.heap.size, 0, none⟩ = some (.string s3) := Y32.out.cell 0
  have qc1 : W32.cell? ⟨W0.heap.size, 1, none⟩ = some (.int .i64 n6) := Y32.out.cell 1
  have qc2 : W32.cell? ⟨W0.heap.size, 2, none⟩ = some (.slice A11 (1 + l11) c11) := Y32.out.cell 2
  have qc3 : W32.cell? ⟨W0.heap.size, 3, none⟩ = some (.slice A12 l12 q12) := Y32.out.cell 3
  have qc4 : W32.cell? ⟨W0.heap.size, 4, none⟩ = some (.slice A15 l15 q15) := Y32.out.cell 4
  have qc5 : W32.cell? ⟨W0.heap.size, 5, none⟩ = some (.slice A18 l18 q18) := Y32.out.cell 5
  have qc6 : W32.cell? ⟨W0.heap.size, 6, none⟩ = some (.slice A21 l21 q21) := Y32.out.cell 6
  have qc7 : W32.cell? ⟨W0.heap.size, 7, none⟩ = some (.slice A23 l23 q23) := Y32.out.cell 7
  have qc8 : W32.cell? ⟨W0.heap.size, 8, none⟩ = some (.string s26) := Y32.out.cell 8
  have qc9 : W32.cell? ⟨W0.heap.size, 9, none⟩ = some (.slice A28 l28 q28) := Y32.out.cell 9
  have qc10 : W32.cell? ⟨W0.heap.size, 10, none⟩ = some (.slice A31 l31 q31) := Y32.out.cell 10
  have hx := X32.out
  have sc0 : W32.cell? ⟨w.heap.size, 0, none⟩ = some (.string ⟨#[]⟩) := hx.cell 0
  have sc1 : W32.cell? ⟨w.heap.size, 1, none⟩ = some (.int .i64 0) := hx.cell 1
  have sc2 : W32.cell? ⟨w.heap.size, 2, none⟩ = some (.slice none 0 0) := hx.cell 2
  have sc3 : W32.cell? ⟨w.heap.size, 3, none⟩ = some (.slice none 0 0) := hx.cell 3
  have sc4 : W32.cell? ⟨w.heap.size, 4, none⟩ = some (.slice none 0 0) := hx.cell 4
  have sc5 : W32.cell? ⟨w.heap.size, 5, none⟩ = some (.slice none 0 0) := hx.cell 5
  have sc6 : W32.cell? ⟨w.heap.size, 6, none⟩ = some (.slice none 0 0) := hx.cell 6
  have sc7 : W32.cell? ⟨w.heap.size, 7, none⟩ = some (.slice none 0 0) := hx.cell 7
  have sc8 : W32.cell? ⟨w.heap.size, 8, none⟩ = some (.string ⟨#[]⟩) := hx.cell 8
  have sc9 : W32.cell? ⟨w.heap.size, 9, none⟩ = some (.slice none 0 0) := hx.cell 9
  have sc10 : W32.cell? ⟨w.heap.size, 10, none⟩ = some (.slice none 0 0) := hx.cell 10
  have tc0 := hx.frozen 0
  have tc1 := hx.frozen 1
  have tc2 := hx.frozen 2
  have tc3 := hx.frozen 3
  have tc4 := hx.frozen 4
  have tc5 := hx.frozen 5
  have tc6 := hx.frozen 6
  have tc7 := hx.frozen 7
  have tc8 := hx.frozen 8
  have tc9 := hx.frozen 9
  have tc10 := hx.frozen 10
  go_wp2_with fail
  have X9 := hx.put11 (.string s3) (.int .i64 n6) (.slice A11 (1 + l11) c11) (.slice A12 l12 q12) (.slice A15 l15 q15) (.slice A18 l18 q18) (.slice A21 l21 q21) (.slice A23 l23 q23) (.string s26) (.slice A28 l28 q28) (.slice A31 l31 q31)
  have k9 := Kept.put11 W32 w.heap.size (.string s3) (.int .i64 n6) (.slice A11 (1 + l11) c11) (.slice A12 l12 q12) (.slice A15 l15 q15) (.slice A18 l18 q18) (.slice A21 l21 q21) (.slice A23 l23 q23) (.string s26) (.slice A28 l28 q28) (.slice A31 l31 q31)
  generalize ((((((((((W32.setCell ⟨w.heap.size, 0, none⟩ (.string s3)).setCell ⟨w.heap.size, 1, none⟩ (.int .i64 n6)).setCell ⟨w.heap.size, 2, none⟩ (.slice A11 (1 + l11) c11)).setCell ⟨w.heap.size, 3, none⟩ (.slice A12 l12 q12)).setCell ⟨w.heap.size, 4, none⟩ (.slice A15 l15 q15)).setCell ⟨w.heap.size, 5, none⟩ (.slice A18 l18 q18)).setCell ⟨w.heap.size, 6, none⟩ (.slice A21 l21 q21)).setCell ⟨w.heap.size, 7, none⟩ (.slice A23 l23 q23)).setCell ⟨w.heap.size, 8, none⟩ (.string s26)).setCell ⟨w.heap.size, 9, none⟩ (.slice A28 l28 q28)).setCell ⟨w.heap.size, 10, none⟩ (.slice A31 l31 q31) = W9 at *
  clear sc0 sc1 sc2 sc3 sc4 sc5 sc6 sc7 sc8 sc9 sc10 qc0 qc1 qc2 qc3 qc4 qc5 qc6 qc7 qc8 qc9 qc10
  have sc0 : W9.cell? ⟨w.heap.size, 0, none⟩ = some (.string s3) := X9.cell 0
  have sc1 : W9.cell? ⟨w.heap.size, 1, none⟩ = some (.int .i64 n6) := X9.cell 1
  have sc2 : W9.cell? ⟨w.heap.size, 2, none⟩ = some (.slice A11 (1 + l11) c11) := X9.cell 2
  have sc3 : W9.cell? ⟨w.heap.size, 3, none⟩ = some (.slice A12 l12 q12) := X9.cell 3
  have sc4 : W9.cell? ⟨w.heap.size, 4, none⟩ = some (.slice A15 l15 q15) := X9.cell 4
  have sc5 : W9.cell? ⟨w.heap.size, 5, none⟩ = some (.slice A18 l18 q18) := X9.cell 5
  have sc6 : W9.cell? ⟨w.heap.size, 6, none⟩ = some (.slice A21 l21 q21) := X9.cell 6
  have sc7 : W9.cell? ⟨w.heap.size, 7, none⟩ = some (.slice A23 l23 q23) := X9.cell 7
  have sc8 : W9.cell? ⟨w.heap.size, 8, none⟩ = some (.string s26) := X9.cell 8
  have sc9 : W9.cell? ⟨w.heap.size, 9, none⟩ = some (.slice A28 l28 q28) := X9.cell 9
  have sc10 : W9.cell? ⟨w.heap.size, 10, none⟩ = some (.slice A31 l31 q31) := X9.cell 10
  have KK : Kept (fun z => z = g) w W9 := K32.out.then_ k9 (fun z hz e => by omega)
  have TS : Hid (Kept (fun z => z < W0.heap.size + 1 ∨ w11.heap.size ≤ z) w11 W9) := ((J12.out.mono (T := (fun z => z < W0.heap.size + 1 ∨ w11.heap.size ≤ z)) (fun z hz e => by omega)).then_ ((J13.out.mono (T := (fun z => z < W0.heap.size + 1 ∨ w11.heap.size ≤ z)) (fun z hz e => by omega)).then_ ((J14.out.mono (T := (fun z => z < W0.heap.size + 1 ∨ w11.heap.size ≤ z)) (fun z hz e => by omega)).then_ ((J15.out.mono (T := (fun z => z < W0.heap.size + 1 ∨ w11.heap.size ≤ z)) (fun z hz e => by omega)).then_ ((J16.out.mono (T := (fun z => z < W0.heap.size + 1 ∨ w11.heap.size ≤ z)) (fun z hz e => by omega)).then_ ((J17.out.mono (T := (fun z => z < W0.heap.size + 1 ∨ w11.heap.size ≤ z)) (fun z hz e => by omega)).then_ ((J18.out.mono (T := (fun z => z < W0.heap.size + 1 ∨ w11.heap.size ≤ z)) (fun z hz e => by omega)).then_ ((J19.out.mono (T := (fun z => z < W0.heap.size + 1 ∨ w11.heap.size ≤ z)) (fun z hz e => by omega)).then_ ((J20.out.mono (T := (fun z => z < W0.heap.size + 1 ∨ w11.heap.size ≤ z)) (fun z hz e => by omega)).then_ ((J21.out.mono (T := (fun z => z < W0.heap.size + 1 ∨ w11.heap.size ≤ z)) (fun z hz e => by omega)).then_ ((J22.out.mono (T := (fun z => z < W0.heap.size + 1 ∨ w11.heap.size ≤ z)) (fun z hz e => by omega)).then_ ((J23.out.mono (T := (fun z => z < W0.heap.size + 1 ∨ w11.heap.size ≤ z)) (fun z hz e => by omega)).then_ ((J24.out.mono (T := (fun z => z < W0.heap.size + 1 ∨ w11.heap.size ≤ z)) (fun z hz e => by omega)).then_ ((J25.out.mono (T := (fun z => z < W0.heap.size + 1 ∨ w11.heap.size ≤ z)) (fun z hz e => by omega)).then_ ((J26.out.mono (T := (fun z => z < W0.heap.size + 1 ∨ w11.heap.size ≤ z)) (fun z hz e => by omega)).then_ ((J27.out.mono (T := (fun z => z < W0.heap.size + 1 ∨ w11.heap.size ≤ z)) (fun z hz e => by omega)).then_ ((J28.out.mono (T := (fun z => z < W0.heap.size + 1 ∨ w11.heap.size ≤ z)) (fun z hz e => by omega)).then_ ((J29.out.mono (T := (fun z => z < W0.heap.size + 1 ∨ w11.heap.size ≤ z)) (fun z hz e => by omega)).then_ ((J30.out.mono (T := (fun z => z < W0.heap.size + 1 ∨ w11.heap.size ≤ z)) (fun z hz e => by omega)).then_ ((J31.out.mono (T := (fun z => z < W0.heap.size + 1 ∨ w11.heap.size ≤ z)) (fun z hz e => by omega)).then_ ((J32.out.mono (T := (fun z => z < W0.heap.size + 1 ∨ w11.heap.size ≤ z)) (fun z hz e => by omega)).then_ (k9.mono (T := (fun z => z < W0.heap.size + 1 ∨ w11.heap.size ≤ z)) (fun z hz e => by omega)) (fun _ _ e => e.imp (fun e => e) (fun e => e))) (fun _ _ e => e.imp (fun e => e) (fun e => e))) (fun _ _ e => e.imp (fun e => e) (fun e => e))) (fun _ _ e => e.imp (fun e => e) (fun e => e))) (fun _ _ e => e.imp (fun e => e) (fun e => e))) (fun _ _ e => e.imp (fun e => e) (fun e => e))) (fun _ _ e => e.imp (fun e => e) (fun e => e))) (fun _ _ e => e.imp (fun e => e) (fun e => e))) (fun _ _ e => e.imp (fun e => e) (fun e => e))) (fun _ _ e => e.imp (fun e => e) (fun e => e))) (fun _ _ e => e.imp (fun e => e) (fun e => e))) (fun _ _ e => e.imp (fun e => e) (fun e => e))) (fun _ _ e => e.imp (fun e => e) (fun e => e))) (fun _ _ e => e.imp (fun e => e) (fun e => e))) (fun _ _ e => e.imp (fun e => e) (fun e => e))) (fun _ _ e => e.imp (fun e => e) (fun e => e))) (fun _ _ e => e.imp (fun e => e) (fun e => e))) (fun _ _ e => e.imp (fun e => e) (fun e => e))) (fun _ _ e => e.imp (fun e => e) (fun e => e))) (fun _ _ e => e.imp (fun e => e) (fun e => e))) (fun _ _ e => e.imp (fun e => e) (fun e => e)))
  have T3 : Hid (Kept (fun z => z < w11.heap.size ∨ w12.heap.size ≤ z) w12 W9) := ((J13.out.mono (T := (fun z => z < w11.heap.size ∨ w12.heap.size ≤ z)) (fun z hz e => by omega)).then_ ((J14.out.mono (T := (fun z => z < w11.heap.size ∨ w12.heap.size ≤ z)) (fun z hz e => by omega)).then_ ((J15.out.mono (T := (fun z => z < w11.heap.size ∨ w12.heap.size ≤ z)) (fun z hz e => by omega)).then_ ((J16.out.mono (T := (fun z => z < w11.heap.size ∨ w12.heap.size ≤ z)) (fun z hz e => by omega)).then_ ((J17.out.mono (T := (fun z => z < w11.heap.size ∨ w12.heap.size ≤ z)) (fun z hz e => by omega)).then_ ((J18.out.mono (T := (fun z => z < w11.heap.size ∨ w12.heap.size ≤ z)) (fun z hz e => by omega)).then_ ((J19.out.mono (T := (fun z => z < w11.heap.size ∨ w12.heap.size ≤ z)) (fun z hz e => by omega)).then_ ((J20.out.mono (T := (fun z => z < w11.heap.size ∨ w12.heap.size ≤ z)) (fun z hz e => by omega)).then_ ((J21.out.mono (T := (fun z => z < w11.heap.size ∨ w12.heap.size ≤ z)) (fun z hz e => by omega)).then_ ((J22.out.mono (T := (fun z => z < w11.heap.size ∨ w12.heap.size ≤ z)) (fun z hz e => by omega)).then_ ((J23.out.mono (T := (fun z => z < w11.heap.size ∨ w12.heap.size ≤ z)) (fun z hz e => by omega)).then_ ((J24.out.mono (T := (fun z => z < w11.heap.size ∨ w12.heap.size ≤ z)) (fun z hz e => by omega)).then_ ((J25.out.mono (T := (fun z => z < w11.heap.size ∨ w12.heap.size ≤ z)) (fun z hz e => by omega)).then_ ((J26.out.mono (T := (fun z => z < w11.heap.size ∨ w12.heap.size ≤ z)) (fun z hz e => by omega)).then_ ((J27.out.mono (T := (fun z => z < w11.heap.size ∨ w12.heap.size ≤ z)) (fun z hz e => by omega)).then_ ((J28.out.mono (T := (fun z => z < w11.heap.size ∨ w12.heap.size ≤ z)) (fun z hz e => by omega)).then_ ((J29.out.mono (T := (fun z => z < w11.heap.size ∨ w12.heap.size ≤ z)) (fun z hz e => by omega)).then_ ((J30.out.mono (T := (fun z => z < w11.heap.size ∨ w12.heap.size ≤ z)) (fun z hz e => by omega)).then_ ((J31.out.mono (T := (fun z => z < w11.heap.size ∨ w12.heap.size ≤ z)) (fun z hz e => by omega)).then_ ((J32.out.mono (T := (fun z => z < w11.heap.size ∨ w12.heap.size ≤ z)) (fun z hz e => by omega)).then_ (k9.mono (T := (fun z => z < w11.heap.size ∨ w12.heap.size ≤ z)) (fun z hz e => by omega)) (fun _ _ e => e.imp (fun e => e) (fun e => e))) (fun _ _ e => e.imp (fun e => e) (fun e => e))) (fun _ _ e => e.imp (fun e => e) (fun e => e))) (fun _ _ e => e.imp (fun e => e) (fun e => e))) (fun _ _ e => e.imp (fun e => e) (fun e => e))) (fun _ _ e => e.imp (fun e => e) (fun e => e))) (fun _ _ e => e.imp (fun e => e) (fun e => e))) (fun _ _ e => e.imp (fun e => e) (fun e => e))) (fun _ _ e => e.imp (fun e => e) (fun e => e))) (fun _ _ e => e.imp (fun e => e) (fun e => e))) (fun _ _ e => e.imp (fun e => e) (fun e => e))) (fun _ _ e => e.imp (fun e => e) (fun e => e))) (fun _ _ e => e.imp (fun e => e) (fun e => e))) (fun _ _ e => e.imp (fun e => e) (fun e => e))) (fun _ _ e => e.imp (fun e => e) (fun e => e))) (fun _ _ e => e.imp (fun e => e) (fun e => e))) (fun _ _ e => e.imp (fun e => e) (fun e => e))) (fun _ _ e => e.imp (fun e => e) (fun e => e))) (fun _ _ e => e.imp (fun e => e) (fun e => e))) (fun _ _ e => e.imp (fun e => e) (fun e => e)))
  have T4 : Hid (Kept (fun z => z < w14.heap.size ∨ w15.heap.size ≤ z) w15 W9) := ((J16.out.mono (T := (fun z => z < w14.heap.size ∨ w15.heap.size ≤ z)) (fun z hz e => by omega)).then_ ((J17.out.mono (T := (fun z => z < w14.heap.size ∨ w15.heap.size ≤ z)) (fun z hz e => by omega)).then_ ((J18.out.mono (T := (fun z => z < w14.heap.size ∨ w15.heap.size ≤ z)) (fun z hz e => by omega)).then_ ((J19.out.mono (T := (fun z => z < w14.heap.size ∨ w15.heap.size ≤ z)) (fun z hz e => by omega)).then_ ((J20.out.mono (T := (fun z => z < w14.heap.size ∨ w15.heap.size ≤ z)) (fun z hz e => by omega)).then_ ((J21.out.mono (T := (fun z => z < w14.heap.size ∨ w15.heap.size ≤ z)) (fun z hz e => by omega)).then_ ((J22.out.mono (T := (fun z => z < w14.heap.size ∨ w15.heap.size ≤ z)) (fun z hz e => by omega)).then_ ((J23.out.mono (T := (fun z => z < w14.heap.size ∨ w15.heap.size ≤ z)) (fun z hz e => by omega)).then_ ((J24.out.mono (T := (fun z => z < w14.heap.size ∨ w15.heap.size ≤ z)) (fun z hz e => by omega)).then_ ((J25.out.mono (T := (fun z => z < w14.heap.size ∨ w15.heap.size ≤ z)) (fun z hz e => by omega)).then_ ((J26.out.mono (T := (fun z => z < w14.heap.size ∨ w15.heap.size ≤ z)) (fun z hz e => by omega)).then_ ((J27.out.mono (T := (fun z => z < w14.heap.size ∨ w15.heap.size ≤ z)) (fun z hz e => by omega)).then_ ((J28.out.mono (T := (fun z => z < w14.heap.size ∨ w15.heap.size ≤ z)) (fun z hz e => by omega)).then_ ((J29.out.mono (T := (fun z => z < w14.heap.size ∨ w15.heap.size ≤ z)) (fun z hz e => by omega)).then_ ((J30.out.mono (T := (fun z => z < w14.heap.size ∨ w15.heap.size ≤ z)) (fun z hz e => by omega)).then_ ((J31.out.mono (T := (fun z => z < w14.heap.size ∨ w15.heap.size ≤ z)) (fun z hz e => by omega)).then_ ((J32.out.mono (T := (fun z => z < w14.heap.size ∨ w15.heap.size ≤ z)) (fun z hz e => by omega)).then_ (k9.mono (T := (fun z => z < w14.heap.size ∨ w15.heap.size ≤ z)) (fun z hz e => by omega)) (fun _ _ e => e.imp (fun e => e) (fun e => e))) (fun _ _ e => e.imp (fun e => e) (fun e => e))) (fun _ _ e => e.imp (fun e => e) (fun e => e))) (fun _ _ e => e.imp (fun e => e) (fun e => e))) (fun _ _ e => e.imp (fun e => e) (fun e => e))) (fun _ _ e => e.imp (fun e => e) (fun e => e))) (fun _ _ e => e.imp (fun e => e) (fun e => e))) (fun _ _ e => e.imp (fun e => e) (fun e => e))) (fun _ _ e => e.imp (fun e => e) (fun e => e))) (fun _ _ e => e.imp (fun e => e) (fun e => e))) (fun _ _ e => e.imp (fun e => e) (fun e => e))) (fun _ _ e => e.imp (fun e => e) (fun e => e))) (fun _ _ e => e.imp (fun e => e) (fun e => e))) (fun _ _ e => e.imp (fun e => e) (fun e => e))) (fun _ _ e => e.imp (fun e => e) (fun e => e))) (fun _ _ e => e.imp (fun e => e) (fun e => e))) (fun _ _ e => e.imp (fun e => e) (fun e => e)))
  have T5 : Hid (Kept (fun z => z < w17.heap.size ∨ w18.heap.size ≤ z) w18 W9) := ((J19.out.mono (T := (fun z => z < w17.heap.size ∨ w18.heap.size ≤ z)) (fun z hz e => by omega)).then_ ((J20.out.mono (T := (fun z => z < w17.heap.size ∨ w18.heap.size ≤ z)) (fun z hz e => by omega)).then_ ((J21.out.mono (T := (fun z => z < w17.heap.size ∨ w18.heap.size ≤ z)) (fun z hz e => by omega)).then_ ((J22.out.mono (T := (fun z => z < w17.heap.size ∨ w18.heap.size ≤ z)) (fun z hz e => by omega)).then_ ((J23.out.mono (T := (fun z => z < w17.heap.size ∨ w18.heap.size ≤ z)) (fun z hz e => by omega)).then_ ((J24.out.mono (T := (fun z => z < w17.heap.size ∨ w18.heap.size ≤ z)) (fun z hz e => by omega)).then_ ((J25.out.mono (T := (fun z => z < w17.heap.size ∨ w18.heap.size ≤ z)) (fun z hz e => by omega)).then_ ((J26.out.mono (T := (fun z => z < w17.heap.size ∨ w18.heap.size ≤ z)) (fun z hz e => by omega)).then_ ((J27.out.mono (T := (fun z => z < w17.heap.size ∨ w18.heap.size ≤ z)) (fun z hz e => by omega)).then_ ((J28.out.mono (T := (fun z => z < w17.heap.size ∨ w18.heap.size ≤ z)) (fun z hz e => by omega)).then_ ((J29.out.mono (T := (fun z => z < w17.heap.size ∨ w18.heap.size ≤ z)) (fun z hz e => by omega)).then_ ((J30.out.mono (T := (fun z => z < w17.heap.size ∨ w18.heap.size ≤ z)) (fun z hz e => by omega)).then_ ((J31.out.mono (T := (fun z => z < w17.heap.size ∨ w18.heap.size ≤ z)) (fun z hz e => by omega)).then_ ((J32.out.mono (T := (fun z => z < w17.heap.size ∨ w18.heap.size ≤ z)) (fun z hz e => by omega)).then_ (k9.mono (T := (fun z => z < w17.heap.size ∨ w18.heap.size ≤ z)) (fun z hz e => by omega)) (fun _ _ e => e.imp (fun e => e) (fun e => e))) (fun _ _ e => e.imp (fun e => e) (fun e => e))) (fun _ _ e => e.imp (fun e => e) (fun e => e))) (fun _ _ e => e.imp (fun e => e) (fun e => e))) (fun _ _ e => e.imp (fun e => e) (fun e => e))) (fun _ _ e => e.imp (fun e => e) (fun e => e))) (fun _ _ e => e.imp (fun e => e) (fun e => e))) (fun _ _ e => e.imp (fun e => e) (fun e => e))) (fun _ _ e => e.imp (fun e => e) (fun e => e))) (fun _ _ e => e.imp (fun e => e) (fun e => e))) (fun _ _ e => e.imp (fun e => e) (fun e => e))) (fun _ _ e => e.imp (fun e => e) (fun e => e))) (fun _ _ e => e.imp (fun e => e) (fun e => e))) (fun _ _ e => e.imp (fun e => e) (fun e => e)))
  have T6 : Hid (Kept (fun z => z < w20.heap.size ∨ w21.heap.size ≤ z) w21 W9) := ((J22.out.mono (T := (fun z => z < w20.heap.size ∨ w21.heap.size ≤ z)) (fun z hz e => by omega)).then_ ((J23.out.mono (T := (fun z => z < w20.heap.size ∨ w21.heap.size ≤ z)) (fun z hz e => by omega)).then_ ((J24.out.mono (T := (fun z => z < w20.heap.size ∨ w21.heap.size ≤ z)) (fun z hz e => by omega)).then_ ((J25.out.mono (T := (fun z => z < w20.heap.size ∨ w21.heap.size ≤ z)) (fun z hz e => by omega)).then_ ((J26.out.mono (T := (fun z => z < w20.heap.size ∨ w21.heap.size ≤ z)) (fun z hz e => by omega)).then_ ((J27.out.mono (T := (fun z => z < w20.heap.size ∨ w21.heap.size ≤ z)) (fun z hz e => by omega)).then_ ((J28.out.mono (T := (fun z => z < w20.heap.size ∨ w21.heap.size ≤ z)) (fun z hz e => by omega)).then_ ((J29.out.mono (T := (fun z => z < w20.heap.size ∨ w21.heap.size ≤ z)) (fun z hz e => by omega)).then_ ((J30.out.mono (T := (fun z => z < w20.heap.size ∨ w21.heap.size ≤ z)) (fun z hz e => by omega)).then_ ((J31.out.mono (T := (fun z => z < w20.heap.size ∨ w21.heap.size ≤ z)) (fun z hz e => by omega)).then_ ((J32.out.mono (T := (fun z => z < w20.heap.size ∨ w21.heap.size ≤ z)) (fun z hz e => by omega)).then_ (k9.mono (T := (fun z => z < w20.heap.size ∨ w21.heap.size ≤ z)) (fun z hz e => by omega)) (fun _ _ e => e.imp (fun e => e) (fun e => e))) (fun _ _ e => e.imp (fun e => e) (fun e => e))) (fun _ _ e => e.imp (fun e => e) (fun e => e))) (fun _ _ e => e.imp (fun e => e) (fun e => e))) (fun _ _ e => e.imp (fun e => e) (fun e => e))) (fun _ _ e => e.imp (fun e => e) (fun e => e))) (fun _ _ e => e.imp (fun e => e) (fun e => e))) (fun _ _ e => e.imp (fun e => e) (fun e => e))) (fun _ _ e => e.imp (fun e => e) (fun e => e))) (fun _ _ e => e.imp (fun e => e) (fun e => e))) (fun _ _ e => e.imp (fun e => e) (fun e => e)))
  have T7 : Hid (Kept (fun z => z < W22.heap.size ∨ w23.heap.size ≤ z) w23 W9) := ((J24.out.mono (T := (fun z => z < W22.heap.size ∨ w23.heap.size ≤ z)) (fun z hz e => by omega)).then_ ((J25.out.mono (T := (fun z => z < W22.heap.size ∨ w23.heap.size ≤ z)) (fun z hz e => by omega)).then_ ((J26.out.mono (T := (fun z => z < W22.heap.size ∨ w23.heap.size ≤ z)) (fun z hz e => by omega)).then_ ((J27.out.mono (T := (fun z => z < W22.heap.size ∨ w23.heap.size ≤ z)) (fun z hz e => by omega)).then_ ((J28.out.mono (T := (fun z => z < W22.heap.size ∨ w23.heap.size ≤ z)) (fun z hz e => by omega)).then_ ((J29.out.mono (T := (fun z => z < W22.heap.size ∨ w23.heap.size ≤ z)) (fun z hz e => by omega)).then_ ((J30.out.mono (T := (fun z => z < W22.heap.size ∨ w23.heap.size ≤ z)) (fun z hz e => by omega)).then_ ((J31.out.mono (T := (fun z => z < W22.heap.size ∨ w23.heap.size ≤ z)) (fun z hz e => by omega)).then_ ((J32.out.mono (T := (fun z => z < W22.heap.size ∨ w23.heap.size ≤ z)) (fun z hz e => by omega)).then_ (k9.mono (T := (fun z => z < W22.heap.size ∨ w23.heap.size ≤ z)) (fun z hz e => by omega)) (fun _ _ e => e.imp (fun e => e) (fun e => e))) (fun _ _ e => e.imp (fun e => e) (fun e => e))) (fun _ _ e => e.imp (fun e => e) (fun e => e))) (fun _ _ e => e.imp (fun e => e) (fun e => e))) (fun _ _ e => e.imp (fun e => e) (fun e => e))) (fun _ _ e => e.imp (fun e => e) (fun e => e))) (fun _ _ e => e.imp (fun e => e) (fun e => e))) (fun _ _ e => e.imp (fun e => e) (fun e => e))) (fun _ _ e => e.imp (fun e => e) (fun e => e)))
  have T9 : Hid (Kept (fun z => z < W27.heap.size ∨ w28.heap.size ≤ z) w28 W9) := ((J29.out.mono (T := (fun z => z < W27.heap.size ∨ w28.heap.size ≤ z)) (fun z hz e => by omega)).then_ ((J30.out.mono (T := (fun z => z < W27.heap.size ∨ w28.heap.size ≤ z)) (fun z hz e => by omega)).then_ ((J31.out.mono (T := (fun z => z < W27.heap.size ∨ w28.heap.size ≤ z)) (fun z hz e => by omega)).then_ ((J32.out.mono (T := (fun z => z < W27.heap.size ∨ w28.heap.size ≤ z)) (fun z hz e => by omega)).then_ (k9.mono (T := (fun z => z < W27.heap.size ∨ w28.heap.size ≤ z)) (fun z hz e => by omega)) (fun _ _ e => e.imp (fun e => e) (fun e => e))) (fun _ _ e => e.imp (fun e => e) (fun e => e))) (fun _ _ e => e.imp (fun e => e) (fun e => e))) (fun _ _ e => e.imp (fun e => e) (fun e => e)))
  have T10 : Hid (Kept (fun z => z < w30.heap.size ∨ w31.heap.size ≤ z) w31 W9) := ((J32.out.mono (T := (fun z => z < w30.heap.size ∨ w31.heap.size ≤ z)) (fun z hz e => by omega)).then_ (k9.mono (T := (fun z => z < w30.heap.size ∨ w31.heap.size ≤ z)) (fun z hz e => by omega)) (fun _ _ e => e.imp (fun e => e) (fun e => e)))
  refine bodyPost_ret (v := .agg #[.string s3, .int .i64 n6, .slice A11 (1 + l11) c11, .slice A12 l12 q12, .slice A15 l15 q15, .slice A18 l18 q18, .slice A21 l21 q21, .slice A23 l23 q23, .string s26, .slice A28 l28 q28, .slice A31 l31 q31]) (by simp [results, Tryz.results28, go_sem, sc0, sc1, sc2, sc3, sc4, sc5, sc6, sc7, sc8, sc9, sc10]) rfl ⟨_, rfl, KK, ⟨_, _, _, _, _, _, _, _, _, _, _, _, _, _, _, _, _, _, _, _, _, _, _, _, _, _, _, rfl⟩, i31, er31, HH.out.put P32.out.at_ (P32.out.blk.kept k9 (by omega)) KK, PS31.out.map _ ?_⟩
  rintro ⟨⟨⟨⟨⟨⟨⟨⟨⟨⟨⟨⟨⟨⟨⟨⟨⟨⟨⟨u0, x1⟩, u2⟩, x3⟩, u4⟩, x5⟩, x6⟩, x7⟩, u8⟩, x9⟩, u10⟩, x11⟩, u12⟩, x13⟩, x14⟩, u15⟩, x16⟩, x17⟩, u18⟩, x19⟩ ⟨⟨⟨⟨⟨⟨⟨⟨⟨⟨⟨⟨⟨⟨⟨⟨⟨⟨⟨-, h1⟩, -⟩, h3⟩, -⟩, h5⟩, h6⟩, h7⟩, -⟩, h9⟩, -⟩, h11⟩, -⟩, h13⟩, h14⟩, -⟩, h16⟩, h17⟩, -⟩, h19⟩
  injection h1 with h1
  injection h3 with _ h3
  injection h5 with _ h5
  injection h16 with h16
  obtain ⟨hl6, hz6⟩ := h6
  have hl6 : x6.length = l11 := hl6
  have O9 : W9.ownsRow w.heap.size 3 1 (.slice A11 (1 + l11) c11) (1 + l11) ([.int .i64 n9] ++ zs11) := own_keptS OS.out TS.out (fun z hz e => by have h1 := HBS.out z hz; have h2 := hols.out z hz; omega)
  have hS : RowD (fun k => w.heap.size ≤ k) 1 QI W9 (x5 :: x6) (.slice A11 (1 + l11) c11) := by
    refine ⟨A11, 1 + l11, c11, rfl, elsg_own (Q := QI) O9 (by omega) (by simp only [List.length_cons]; omega) (fun j hj => ?_)⟩
    match j, hj with
    | 0, _ =>
      show ([(.int .i64 n9 : Value)] ++ zs11).take 1 = _
      rw [List.take_append_of_le_length (by simp), h5]
      rfl
    | j + 1, hj =>
      have hj' : j < x6.length := by simpa using hj
      show (([(.int .i64 n9 : Value)] ++ zs11).drop ((j + 1) * 1)).take 1 = [.int .i64 (x6[j]'hj')]
      rw [← hz6 j hj', Nat.mul_one, Nat.mul_one]
      rfl
  refine ⟨_, rfl, .slice A11 (1 + l11) c11, .slice A12 l12 q12, .slice A15 l15 q15, .slice A18 l18 q18, .slice A21 l21 q21, .slice A23 l23 q23, .slice A28 l28 q28, .slice A31 l31 q31, ?_, hS, ?_⟩
  · rw [h1, h3, h16]
  refine ⟨h7.kept QV_kept (by omega) T3.out (fun k _ hk e => by omega), h9.kept (QS_kept 16) (by omega) T4.out (fun k _ hk e => by omega), h11.kept (QS_kept 16) (by omega) T5.out (fun k _ hk e => by omega), h13.kept QV_kept (by omega) T6.out (fun k _ hk e => by omega), h14.kept (QS_kept 16) (by omega) T7.out (fun k _ hk e => by omega), h17.kept (QS_kept 16) (by omega) T9.out (fun k _ hk e => by omega), h19.kept (QS_kept 16) (by omega) T10.out (fun k _ hk e => by omega)⟩
end Go.Proofs.YtdgekckedchjbaaGreatDoor
