
/-
  The parser of programs: a statement that begins with a name. (Printed by wip/tools/gens25.py.) The parser of programs: what stands behind an if; a statement. (Printed by wip/tools/gens26.py.)
-/
import Derived.Test.YtdgekckedchjbaaGreatDoorQH
import Derived.Deep.AppendLies
namespace Go.Proofs.YtdgekckedchjbaaGreatDoor
open Go.RowKit

theorem info_pexpr : (Tryz.prog.info? 40).map (fun i => (i.zero, i.size, i.bytes)) = some (some (.agg #[.int .i64 0, .int .i64 0, .string ByteArray.empty, .slice none 0 0]), 4, 56) := by kernel_rfl
def putT (r : List Tk) : PS (Int × List Ex) := (exprP r).bind fun e r => (mustP [93] r).bind fun _ r => (mustP [61] r).bind fun _ r => (exprP r).bind fun e2 r => .ok (1, [e, e2]) r
def setT (r : List Tk) : PS (Int × List Ex) := (mustP [61] r).bind fun _ r => (exprP r).bind fun e r => .ok (0, [e]) r
def bodyP (r : List Tk) : PS (Int × List Ex) := if hasT [91] r then putT r.tail else setT r
theorem assign_bind (nm : List UInt8) (r : List Tk) : ((bodyP r).bind fun b r => PS.ok (St.mk b.1 nm b.2 0 0 [] []) r) = if hasT [91] r then
    (exprP r.tail).bind fun e r => (mustP [93] r).bind fun _ r => (mustP [61] r).bind fun _ r => (exprP r).bind fun e2 r => .ok (.mk 1 nm [e, e2] 0 0 [] []) r
  else (mustP [61] r).bind fun _ r => (exprP r).bind fun e r => .ok (.mk 0 nm [e] 0 0 [] []) r := by
  unfold bodyP putT setT
  split <;> simp only [PS.bind_assoc, PS.ok_bind]
theorem assign_st (ts : List Tk) (i : Nat) (er : Int) : stP assignP ts i er = ((stP nameP ts i er).bind fun a r => (bodyP r).bind fun b r => .ok (a, b) r).bind fun x r => .ok ((fun x : List UInt8 × (Int × List Ex) => St.mk x.2.1 x.1 x.2.2 0 0 [] []) x) r := by
  by_cases he : er = 0
  · unfold stP
    rw [if_pos he, if_pos he]
    unfold assignP
    simp only [PS.bind_assoc, PS.ok_bind, assign_bind]
  · unfold stP
    rw [if_neg he, if_neg he]
    rfl
/-- What append(y.f, expression()) leaves. -/
def AppTo (W : World) (g c : Nat) (A : Option Addr) (m : Nat → Nat) (ts : List Tk) (dp : Int) (p : PS Ex) (base ya : Nat) (yc : Value → Array Value) (vo : Value) (n : Nat) (ys : List Value) (wc : World) : Prop :=
  ∃ (A8 : Option Addr) (c8 : Nat) (cs : List Value) (i' : Nat) (er' : Int) (zm : Nat), Blk wc ya 95 (yc (.slice A8 (n + 1) c8)) ∧ Par wc g A c m ts i' dp er' ∧ Kept (fun z => z = g ∨ z = ya ∨ vo.ownBlock = some z) W wc ∧
    wc.ownsRow base 40 4 (.slice A8 (n + 1) c8) (n + 1) (ys ++ cs) ∧ cs.length = 4 ∧ PsAt ts i' er' p (fun x => TE (fun k => W.heap.size ≤ k ∧ k < zm) wc x cs) ∧ W.heap.size ≤ zm ∧ zm ≤ wc.heap.size ∧
    ∀ z, (Value.slice A8 (n + 1) c8).ownBlock = some z → vo.ownBlock = some z ∨ zm ≤ z
theorem app_mk {w0 W w5 w8 : World} {i0 : Nat} {er0 : Int} {g c : Nat} {A : Option Addr} {m : Nat → Nat} {ts : List Tk} {dp : Int} {p : PS Ex} {base ya f : Nat} {yc : Value → Array Value} {vo : Value} {n : Nat} {ys : List Value} {A8 : Option Addr} {c8 i' : Nat} {er' : Int} {op N : Int} {nm : ByteArray} {B : Option Addr} {l q : Nat}
    (HH : Par w0 g A c m ts i0 dp er0) (K0 : Kept (fun z => z = g) w0 W) (hb0 : w0.heap.size ≤ base) (k5 : Kept (fun z => z = g) W.drew w5) (p5 : Par w5 g A c m ts i' dp er') (ps : PsAt ts i' er' p (fun a => IsEl QE W.drew.heap.size w5 a (.agg #[.int .i64 op, .int .i64 N, .string nm, .slice B l q])))
    (y5 : Blk w5 ya 95 (yc vo)) (o8 : w8.ownsRow base 40 4 (.slice A8 (n + 1) c8) (n + 1) (ys ++ [.int .i64 op, .int .i64 N, .string nm, .slice B l q]))
    (g8 : (w5.alloc (.cells #[.int .i64 op, .int .i64 N, .string nm, .slice B l q] 40)).grownBy w8 vo.ownBlock)
    (at8 : (Value.slice A8 (n + 1) c8).ownBlock = vo.ownBlock ∨ (Value.slice A8 (n + 1) c8).ownBlock = some (w5.alloc (.cells #[.int .i64 op, .int .i64 N, .string nm, .slice B l q] 40)).heap.size)
    (hv : ∀ z, vo.ownBlock = some z → base < z ∧ z < W.heap.size ∧ z ≠ ya) (hgb : g < base) (hby : base ≤ ya) (hyW : ya < W.heap.size) (hyc : ∀ v v', (yc v).setIfInBounds f v' = yc v') :
    AppTo W g c A m ts dp p base ya yc vo n ys (w8.setCell ⟨ya, f, none⟩ (.slice A8 (n + 1) c8)) := by
  have zd : W.drew.heap.size = W.heap.size := rfl
  have z5 := k5.size
  have k58 : Kept (fun z => vo.ownBlock = some z) w5 w8 := ((Kept.refl (fun z => vo.ownBlock = some z) w5).alloc _).then_ (Kept.of_grown g8 (fun _ e => e)) (fun _ _ e => e)
  have k89 := (Kept.refl (fun z => z = ya) w8).setCell (p := ⟨ya, f, none⟩) (fun _ => rfl) (.slice A8 (n + 1) c8)
  have k59 : Kept (fun z => z = ya ∨ vo.ownBlock = some z) w5 (w8.setCell ⟨ya, f, none⟩ (.slice A8 (n + 1) c8)) := (k58.mono (T := fun z => z = ya ∨ vo.ownBlock = some z) (fun _ _ e => .inr e)).then_ k89 (fun _ _ e => .inl e)
  have z8 := k58.size
  have z9 := k89.size
  have KW : Kept (fun z => z = g ∨ z = ya ∨ vo.ownBlock = some z) W (w8.setCell ⟨ya, f, none⟩ (.slice A8 (n + 1) c8)) := (((Kept.refl (fun z => z = g ∨ z = ya ∨ vo.ownBlock = some z) W).drew).then_ k5 (fun _ _ e => .inl e)).then_ k59 (fun _ _ e => .inr e)
  refine ⟨A8, c8, [.int .i64 op, .int .i64 N, .string nm, .slice B l q], i', er', w5.heap.size, ?_, ?_, KW, ?_, rfl, ?_, by omega, by omega, ?_⟩
  · have h := (y5.kept k58 (fun e => (hv _ e).2.2 rfl)).set_ f (.slice A8 (n + 1) c8)
    rw [hyc] at h
    exact h
  · exact HH.put p5.at_ (p5.blk.kept k59 (fun e => by rcases e with e | e <;> first | omega | (have := hv _ e; omega))) (K0.then_ KW (fun z hz e => by rcases e with e | e | e <;> first | omega | (have := hv _ e; omega)))
  · refine own_keptS o8 k89 (fun z hz e => ?_)
    rcases at8 with h | h
    · exact (hv z (h ▸ hz)).2.2 e
    · rw [h] at hz
      have := Option.some.inj hz
      have hs : (w5.alloc (.cells #[.int .i64 op, .int .i64 N, .string nm, .slice B l q] 40)).heap.size = w5.heap.size + 1 := by simp
      omega
  · refine ps.mono fun x hx => ?_
    obtain ⟨cs, hcs, hT⟩ := hx
    have : cs = [.int .i64 op, .int .i64 N, .string nm, .slice B l q] := by
      injection hcs with hcs
      have := congrArg Array.toList hcs
      simpa using this.symm
    subst this
    exact QE_kept _ _ _ w5 _ _ x k59 (fun k hk hd e => by rcases e with e | e <;> first | omega | (have := hv _ e; omega)) (fun k hk hd => ⟨by omega, hk⟩) hT
  · intro z hz
    rcases at8 with h | h
    · exact .inl (h ▸ hz)
    · rw [h] at hz
      have := Option.some.inj hz
      have hs : (w5.alloc (.cells #[.int .i64 op, .int .i64 N, .string nm, .slice B l q] 40)).heap.size = w5.heap.size + 1 := by simp
      exact .inr (by omega)
theorem elsg_own {α : Type} {s n c base : Nat} {Q : Cel α} {w : World} {t : TypeId} {A : Option Addr} {xs : List Value} {l : List α} (h : w.ownsRow base t s (.slice A n c) n xs) (hn : n ≤ 1000000) (hl : l.length = n) (hq : ∀ i (hi : i < l.length), Q (fun k => base ≤ k) w ((xs.drop (i * s)).take s) (l[i]'hi)) : ElsG (fun k => base ≤ k) w s 1000000 (Q (fun k => base ≤ k) w) A n l := by
  refine ⟨xs, Reads.of_own h, fun h0 a ha => ?_, hn, hl, hq⟩
  obtain ⟨A', c', hv, hb⟩ := own_is h
  injection hv with hv _ _
  subst hv
  exact own_ge h _ (hb a h0 ha)
theorem Blk.put7 {w : World} {g : Nat} {t : TypeId} {a0 a1 a2 a3 a4 a5 a6 : Value} (h : Blk w g t #[a0, a1, a2, a3, a4, a5, a6]) (x0 x1 x2 x3 x4 x5 x6 : Value) : Blk (((((((w.setCell ⟨g, 0, none⟩ x0).setCell ⟨g, 1, none⟩ x1).setCell ⟨g, 2, none⟩ x2).setCell ⟨g, 3, none⟩ x3).setCell ⟨g, 4, none⟩ x4).setCell ⟨g, 5, none⟩ x5).setCell ⟨g, 6, none⟩ x6) g t #[x0, x1, x2, x3, x4, x5, x6] := by
  have h0 : Blk (w.setCell ⟨g, 0, none⟩ x0) g t #[x0, a1, a2, a3, a4, a5, a6] := h.set_ 0 x0
  have h1 : Blk ((w.setCell ⟨g, 0, none⟩ x0).setCell ⟨g, 1, none⟩ x1) g t #[x0, x1, a2, a3, a4, a5, a6] := h0.set_ 1 x1
  have h2 : Blk (((w.setCell ⟨g, 0, none⟩ x0).setCell ⟨g, 1, none⟩ x1).setCell ⟨g, 2, none⟩ x2) g t #[x0, x1, x2, a3, a4, a5, a6] := h1.set_ 2 x2
  have h3 : Blk ((((w.setCell ⟨g, 0, none⟩ x0).setCell ⟨g, 1, none⟩ x1).setCell ⟨g, 2, none⟩ x2).setCell ⟨g, 3, none⟩ x3) g t #[x0, x1, x2, x3, a4, a5, a6] := h2.set_ 3 x3
  have h4 : Blk (((((w.setCell ⟨g, 0, none⟩ x0).setCell ⟨g, 1, none⟩ x1).setCell ⟨g, 2, none⟩ x2).setCell ⟨g, 3, none⟩ x3).setCell ⟨g, 4, none⟩ x4) g t #[x0, x1, x2, x3, x4, a5, a6] := h3.set_ 4 x4
  have h5 : Blk ((((((w.setCell ⟨g, 0, none⟩ x0).setCell ⟨g, 1, none⟩ x1).setCell ⟨g, 2, none⟩ x2).setCell ⟨g, 3, none⟩ x3).setCell ⟨g, 4, none⟩ x4).setCell ⟨g, 5, none⟩ x5) g t #[x0, x1, x2, x3, x4, x5, a6] := h4.set_ 5 x5
  have h6 : Blk (((((((w.setCell ⟨g, 0, none⟩ x0).setCell ⟨g, 1, none⟩ x1).setCell ⟨g, 2, none⟩ x2).setCell ⟨g, 3, none⟩ x3).setCell ⟨g, 4, none⟩ x4).setCell ⟨g, 5, none⟩ x5).setCell ⟨g, 6, none⟩ x6) g t #[x0, x1, x2, x3, x4, x5, x6] := h5.set_ 6 x6
  exact h6
theorem Kept.put7 (w : World) (g : Nat) (x0 x1 x2 x3 x4 x5 x6 : Value) : Kept (fun k => k = g) w (((((((w.setCell ⟨g, 0, none⟩ x0).setCell ⟨g, 1, none⟩ x1).setCell ⟨g, 2, none⟩ x2).setCell ⟨g, 3, none⟩ x3).setCell ⟨g, 4, none⟩ x4).setCell ⟨g, 5, none⟩ x5).setCell ⟨g, 6, none⟩ x6) := (((((((Kept.refl (fun k => k = g) w).setCell (p := ⟨g, 0, none⟩) (fun _ => rfl) x0).setCell (p := ⟨g, 1, none⟩) (fun _ => rfl) x1).setCell (p := ⟨g, 2, none⟩) (fun _ => rfl) x2).setCell (p := ⟨g, 3, none⟩) (fun _ => rfl) x3).setCell (p := ⟨g, 4, none⟩) (fun _ => rfl) x4).setCell (p := ⟨g, 5, none⟩) (fun _ => rfl) x5).setCell (p := ⟨g, 6, none⟩) (fun _ => rfl) x6
theorem putT_st  (ts : List Tk) (i : Nat) (er : Int) : stP putT ts i er = ((((stP exprP ts i er).bind fun a r => ((mustP [93]) r).bind fun b r => .ok (a, b) r).bind fun a r => ((mustP [61]) r).bind fun b r => .ok (a, b) r).bind fun a r => (exprP r).bind fun b r => .ok (a, b) r).bind fun x r => .ok ((fun x : ((Ex × Unit) × Unit) × Ex => ((1 : Int), [x.1.1.1, x.2])) x) r := by
  by_cases he : er = 0
  · unfold stP
    rw [if_pos he, if_pos he]
    unfold putT
    simp only [PS.bind_assoc, PS.ok_bind]
    all_goals rfl
  · unfold stP
    rw [if_neg he, if_neg he]
    rfl
theorem setT_st  (ts : List Tk) (i : Nat) (er : Int) : stP setT ts i er = ((stP (mustP [61]) ts i er).bind fun a r => (exprP r).bind fun b r => .ok (a, b) r).bind fun x r => .ok ((fun x : Unit × Ex => ((0 : Int), [x.2])) x) r := by
  by_cases he : er = 0
  · unfold stP
    rw [if_pos he, if_pos he]
    unfold setT
    simp only [PS.bind_assoc, PS.ok_bind]
    all_goals rfl
  · unfold stP
    rw [if_neg he, if_neg he]
    rfl
set_option maxHeartbeats 4000000 in
set_option maxRecDepth 100000 in
theorem assign_any (g c : Nat) (A : Option Addr) (m : Nat → Nat) (ts : List Tk) (i : Nat) (dp er : Int) (w : World) (h : Par w g A c m ts i dp er) :
    Calls Tryz.prog 129 #[.pointer (some ⟨g, 0, none⟩)] w (StepTo w g c A m ts dp (stP assignP ts i er) (IsEl (QS 1) w.heap.size) ShSt) := by
  have f0 : Below w.heap.size w (w.alloc (.cells #[.int .i64 0, .string ⟨#[]⟩, .slice none 0 0, .int .i64 0, .int .i64 0, .slice none 0 0, .slice none 0 0] 95)) := (Below.refl _ w).al _
  have x0 := Blk.new w 95 #[.int .i64 0, .string ⟨#[]⟩, .slice none 0 0, .int .i64 0, .int .i64 0, .slice none 0 0, .slice none 0 0]
  have hgl := h.blk.lt
  have HH := Lib.hid h
  have P0 := Lib.hid (h.below f0)
  have F0 := Lib.hid f0
  have X0 := Lib.hid x0
  have z0 : (w.alloc (.cells #[.int .i64 0, .string ⟨#[]⟩, .slice none 0 0, .int .i64 0, .int .i64 0, .slice none 0 0, .slice none 0 0] 95)).heap.size = w.heap.size + 1 := by simp
  have K0 := Lib.hid (Kept.of_below (S := fun z => z = g) f0)
  have NM := Lib.hid (fun i er w h => pname_any g c A m ts i dp er w h)
  have MB := Lib.hid (fun i er w h => must_step g c A m ts i dp er [93] w h)
  have ME := Lib.hid (fun i er w h => must_step g c A m ts i dp er [61] w h)
  have EX := Lib.hid (fun i er w h => exprP_any g c A m ts i dp er w h)
  rw [assign_st]
  clear h f0 x0
  go_enter Tryz.func129, Tryz.ntmps129
  go_wp2_with fail
  generalize w.alloc (.cells #[.int .i64 0, .string ⟨#[]⟩, .slice none 0 0, .int .i64 0, .int .i64 0, .slice none 0 0, .slice none 0 0] 95) = W0 at *
  refine (NM.out i er W0 P0.out).mono ?_
  rintro e w1 ⟨v1, rfl, k1, ⟨s1, rfl⟩, i1, er1, p1, ps1⟩
  have z1 := k1.size
  have X1 := Lib.hid (X0.out.kept k1 (by omega))
  have K1 := Lib.hid (K0.out.then_ k1 (fun _ _ e => e))
  have P1 := Lib.hid p1
  have PS1 := Lib.hid ps1
  have J1 := Lib.hid k1
  clear p1 k1 ps1 K0 P0 X0
  go_wp2_with fail
  have f2 : Below w1.heap.size w1 (w1.alloc (.cells #[.int .i64 0, .string s1, .slice none 0 0, .int .i64 0, .int .i64 0, .slice none 0 0, .slice none 0 0] 95)) := (Below.refl _ _).al _
  have Y2 := Lib.hid (Blk.new w1 95 #[.int .i64 0, .string s1, .slice none 0 0, .int .i64 0, .int .i64 0, .slice none 0 0, .slice none 0 0])
  have P2 := Lib.hid (P1.out.below f2)
  have X2 := Lib.hid (X1.out.below f2 X1.out.lt)
  have K2 := Lib.hid (K1.out.then_ (Kept.of_below (S := fun z => z = g) f2) (fun _ _ e => e))
  have J2 := Lib.hid (Kept.of_below (S := fun z => z = g) f2)
  have z2 : (w1.alloc (.cells #[.int .i64 0, .string s1, .slice none 0 0, .int .i64 0, .int .i64 0, .slice none 0 0, .slice none 0 0] 95)).heap.size = w1.heap.size + 1 := by simp
  have xl2 := X1.out.lt
  clear f2 K1 P1 X1
  generalize w1.alloc (.cells #[.int .i64 0, .string s1, .slice none 0 0, .int .i64 0, .int .i64 0, .slice none 0 0, .slice none 0 0] 95) = W2 at *
  obtain ⟨t', ht'⟩ := ParS.at_some P2.out.at_
  have SK := Lib.hid (skip_any g c A m ts i1 dp er1 [91] W2 P2.out t' ht')
  have PT := Lib.hid (stP_skip (er := er1) ht' [91] bodyP putT setT (fun r => rfl))
  obtain ⟨bb, hbb⟩ : ∃ b, hasB t' er1 [91] = b := ⟨_, rfl⟩
  rw [hbb] at SK PT
  clear hbb ht'
  cases bb
  · have PTT := Lib.hid (PT.out.2 rfl)
    refine SK.out.mono ?_
    rintro e w3 ⟨rfl, p3, k3⟩
    have P3 : Hid (Par w3 g A c m ts (i1) dp er1) := p3
    have z3 := k3.size
    have X3 := Lib.hid (X2.out.kept k3 (by omega))
    have Y3 := Lib.hid (Y2.out.kept k3 (by omega))
    have K3 := Lib.hid (K2.out.then_ k3 (fun _ _ e => e))
    clear p3 k3 SK K2 P2 X2 Y2
    go_wp2_with fail
    refine (ME.out i1 er1 w3 P3.out).mono ?_
    rintro e w4 ⟨v4, rfl, k4, rfl, i4, er4, p4, ps4⟩
    have z4 := k4.size
    have X4 := Lib.hid (X3.out.kept k4 (by omega))
    have Y4 := Lib.hid (Y3.out.kept k4 (by omega))
    have K4 := Lib.hid (K3.out.then_ k4 (fun _ _ e => e))
    have P4 := Lib.hid p4
    have PS4 := Lib.hid ps4
    have J4 := Lib.hid k4
    clear p4 k4 ps4 K3 P3 X3 Y3
    go_upto_region 7 with fail
    obtain ⟨vo5, hvo5⟩ : ∃ v : Value, v = .slice none 0 0 := ⟨_, rfl⟩
    have OW5 : Hid (w4.drew.ownsRow w.heap.size 40 4 vo5 (0) []) := by rw [hvo5]; exact World.ownsRow.drew (World.ownsRow_nil w4 w.heap.size 40 4)
    have KD5 : Hid (∀ z, vo5.ownBlock = some z → ¬ z = g) := by rw [hvo5]; exact fun z hz _ => absurd (show (none : Option Nat) = some z from hz) (by simp)
    have fw5 : w4.drew.frozen? ⟨w1.heap.size, 2, none⟩ = false := Y4.out.frozen 2
    have qw5 : w4.drew.cell? ⟨w1.heap.size, 2, none⟩ = some vo5 := by rw [hvo5]; exact Y4.out.cell 2
    have PD5 := Lib.hid (P4.out.below (Below.refl _ w4).drew)
    have CL5 := Lib.hid (EX.out i4 er4 w4.drew PD5.out)
    have zd5 : w4.drew.heap.size = w4.heap.size := rfl
    have Q5 : Hid (∀ w', Blk w' (w1.heap.size) 95 #[.int .i64 0, .string s1, .slice none 0 0, .int .i64 0, .int .i64 0, .slice none 0 0, .slice none 0 0] → w'.cell? ⟨w1.heap.size, 2, none⟩ = some vo5 ∧ w'.frozen? ⟨w1.heap.size, 2, none⟩ = false) := by rw [hvo5]; exact fun _ h => ⟨h.cell 2, h.frozen 2⟩
    have YD5 := Lib.hid (Y4.out.drew)
    have HVO5 := Lib.hid hvo5
    clear hvo5
    obtain ⟨j0, hj0, hy0, hy1, hy2⟩ := info_parts info_pexpr
    have HV5 : Hid (∀ z, vo5.ownBlock = some z → w.heap.size < z ∧ z < w4.heap.size ∧ z ≠ w1.heap.size) := by rw [HVO5.out]; exact fun z hz => absurd (show (none : Option Nat) = some z from hz) (by simp)
    go_cut [] (fun wc => Hid (AppTo w4 g c A m ts dp (stP exprP ts i4 er4) w.heap.size (w1.heap.size) (fun v : Value => #[.int .i64 0, .string s1, v, .int .i64 0, .int .i64 0, .slice none 0 0, .slice none 0 0]) vo5 0 [] wc))
    case first =>
      go_region_law
        (first
          | (refine step_append_any _ (by rfl) (.tmp 22) (.tmp 25) _ (by rfl) w.heap.size 40 j0 _ 4 56 Tryz.underlying38 hj0 hy0 hy1 hy2 rfl (by omega) vo5 (0) [] (by rfl) o5.out _ _ 1 1 [.int .i64 op5, .int .i64 N5, .string nm5, .slice B5 l5 q5] (by rfl) RD5.out ON5.out (by unfold maxLen; omega) (by omega) (by simp; omega) ?_; intro u5 x5 r5 g5 t5; obtain ⟨A5, c5, rfl, hb5⟩ := own_is r5; have yz5 := (y5.alloc (.cells #[.int .i64 op5, .int .i64 N5, .string nm5, .slice B5 l5 q5] 40)).kept (Kept.of_grown (S := fun z => vo5.ownBlock = some z) g5 (fun _ e => e)) (fun e => by rw [HVO5.out] at e; exact absurd (show (none : Option Nat) = some _ from e) (by simp)); obtain ⟨qz5, fz5⟩ := Q5.out _ yz5; have R5 := Lib.hid r5; have G5 := Lib.hid g5; have T5 := Lib.hid t5; clear r5 g5 t5)
          | (go_simp; go_at_call 40; (with_reducible refine CL5.out.mono ?_); rintro e w5 ⟨v5, rfl, k5, ⟨op5, N5, nm5, B5, l5, q5, rfl⟩, i5, er5, p5, ps5⟩; have y5 := YD5.out.kept k5 (by omega); obtain ⟨qy5, fy5⟩ := Q5.out _ y5; obtain ⟨qx5, fx5⟩ := Q5.out _ (y5.alloc (.cells #[.int .i64 op5, .int .i64 N5, .string nm5, .slice B5 l5 q5] 40)); have z5 := k5.size; have o5 := Lib.hid (World.ownsRow.alloc (own_keptS OW5.out k5 KD5.out) (.cells #[.int .i64 op5, .int .i64 N5, .string nm5, .slice B5 l5 q5] 40)); have RD5 := Lib.hid (reads_new w5 40 #[.int .i64 op5, .int .i64 N5, .string nm5, .slice B5 l5 q5] 4 rfl); have ON5 := Lib.hid (one4 op5 N5 nm5 B5 l5 q5); have K5 := Lib.hid k5; have P5 := Lib.hid p5; have PS5 := Lib.hid ps5; clear p5 ps5 k5))
      all_goals
        go_wp2_with fail
        go_meet
        case rel => exact app_mk (yc := (fun v : Value => #[.int .i64 0, .string s1, v, .int .i64 0, .int .i64 0, .slice none 0 0, .slice none 0 0])) HH.out K4.out (Nat.le_refl _) K5.out P5.out PS5.out (by rw [HVO5.out]; exact y5) R5.out G5.out T5.out HV5.out (by omega) (by omega) (by omega) (fun _ _ => rfl)
    case rest =>
    obtain ⟨A5, c5, cs5, i5, er5, zm5, y5, p5, k5, o5, hl5, ps5, za5, zb5, hb5⟩ := hcut.out
    obtain ⟨w5, rfl⟩ : ∃ x, x = wc := ⟨_, rfl⟩
    clear hcut CL5 PD5 Q5 YD5 OW5 fw5 qw5 hj0 hy0 hy1 hy2
    have z5 := k5.size
    have Y5 : Hid (Blk w5 (w1.heap.size) 95 #[.int .i64 0, .string s1, .slice A5 (0 + 1) c5, .int .i64 0, .int .i64 0, .slice none 0 0, .slice none 0 0]) := y5
    have HW5 := Lib.hid HV5.out
    have HZ5 : Hid (∀ z, vo5.ownBlock = some z → 0 ≤ z) := by rw [HVO5.out]; exact fun z _ => Nat.zero_le z
    have X5 := Lib.hid (X4.out.kept k5 (fun e => by rcases e with e | e | e <;> first | omega | (have := HW5.out _ e; omega)))
    have K5 := Lib.hid (K4.out.then_ k5 (fun z hz e => by rcases e with e | e | e <;> first | omega | (have := HW5.out _ e; omega)))
    have P5 := Lib.hid p5
    have PS5 := Lib.hid (PS4.out.then_ ps5)
    have J5 := Lib.hid k5
    have OO5 := Lib.hid o5
    have HL5 := Lib.hid hl5
    have HB5 := Lib.hid hb5
    clear p5 k5 ps5 y5 o5 hl5 hb5 K4 P4 X4 Y4 PS4
    have HBz5 : Hid (∀ z, (Value.slice A5 (0 + 1) c5).ownBlock = some z → zm5 ≤ z) := fun z hz => (HB5.out z hz).resolve_left (by rw [HVO5.out]; exact fun h => absurd (show (none : Option Nat) = some z from h) (by simp))
    have hol5 := Lib.hid (own_lt OO5.out)
    go_upto_region 8 with fail
    have qc0 : w5.cell? ⟨w1.heap.size, 0, none⟩ = some (.int .i64 0) := Y5.out.cell 0
    have qc1 : w5.cell? ⟨w1.heap.size, 1, none⟩ = some (.string s1) := Y5.out.cell 1
    have qc2 : w5.cell? ⟨w1.heap.size, 2, none⟩ = some (.slice A5 (0 + 1) c5) := Y5.out.cell 2
    have qc3 : w5.cell? ⟨w1.heap.size, 3, none⟩ = some (.int .i64 0) := Y5.out.cell 3
    have qc4 : w5.cell? ⟨w1.heap.size, 4, none⟩ = some (.int .i64 0) := Y5.out.cell 4
    have qc5 : w5.cell? ⟨w1.heap.size, 5, none⟩ = some (.slice none 0 0) := Y5.out.cell 5
    have qc6 : w5.cell? ⟨w1.heap.size, 6, none⟩ = some (.slice none 0 0) := Y5.out.cell 6
    have hx := X5.out
    have sc0 : w5.cell? ⟨w.heap.size, 0, none⟩ = some (.int .i64 0) := hx.cell 0
    have sc1 : w5.cell? ⟨w.heap.size, 1, none⟩ = some (.string ⟨#[]⟩) := hx.cell 1
    have sc2 : w5.cell? ⟨w.heap.size, 2, none⟩ = some (.slice none 0 0) := hx.cell 2
    have sc3 : w5.cell? ⟨w.heap.size, 3, none⟩ = some (.int .i64 0) := hx.cell 3
    have sc4 : w5.cell? ⟨w.heap.size, 4, none⟩ = some (.int .i64 0) := hx.cell 4
    have sc5 : w5.cell? ⟨w.heap.size, 5, none⟩ = some (.slice none 0 0) := hx.cell 5
    have sc6 : w5.cell? ⟨w.heap.size, 6, none⟩ = some (.slice none 0 0) := hx.cell 6
    have tc0 := hx.frozen 0
    have tc1 := hx.frozen 1
    have tc2 := hx.frozen 2
    have tc3 := hx.frozen 3
    have tc4 := hx.frozen 4
    have tc5 := hx.frozen 5
    have tc6 := hx.frozen 6
    go_wp2_with fail
    have X9 := hx.put7 (.int .i64 0) (.string s1) (.slice A5 (0 + 1) c5) (.int .i64 0) (.int .i64 0) (.slice none 0 0) (.slice none 0 0)
    have k9 := Kept.put7 w5 w.heap.size (.int .i64 0) (.string s1) (.slice A5 (0 + 1) c5) (.int .i64 0) (.int .i64 0) (.slice none 0 0) (.slice none 0 0)
    generalize ((((((w5.setCell ⟨w.heap.size, 0, none⟩ (.int .i64 0)).setCell ⟨w.heap.size, 1, none⟩ (.string s1)).setCell ⟨w.heap.size, 2, none⟩ (.slice A5 (0 + 1) c5)).setCell ⟨w.heap.size, 3, none⟩ (.int .i64 0)).setCell ⟨w.heap.size, 4, none⟩ (.int .i64 0)).setCell ⟨w.heap.size, 5, none⟩ (.slice none 0 0)).setCell ⟨w.heap.size, 6, none⟩ (.slice none 0 0) = W9 at *
    clear sc0 sc1 sc2 sc3 sc4 sc5 sc6 qc0 qc1 qc2 qc3 qc4 qc5 qc6
    have sc0 : W9.cell? ⟨w.heap.size, 0, none⟩ = some (.int .i64 0) := X9.cell 0
    have sc1 : W9.cell? ⟨w.heap.size, 1, none⟩ = some (.string s1) := X9.cell 1
    have sc2 : W9.cell? ⟨w.heap.size, 2, none⟩ = some (.slice A5 (0 + 1) c5) := X9.cell 2
    have sc3 : W9.cell? ⟨w.heap.size, 3, none⟩ = some (.int .i64 0) := X9.cell 3
    have sc4 : W9.cell? ⟨w.heap.size, 4, none⟩ = some (.int .i64 0) := X9.cell 4
    have sc5 : W9.cell? ⟨w.heap.size, 5, none⟩ = some (.slice none 0 0) := X9.cell 5
    have sc6 : W9.cell? ⟨w.heap.size, 6, none⟩ = some (.slice none 0 0) := X9.cell 6
    have KK : Kept (fun z => z = g) w W9 := K5.out.then_ k9 (fun z hz e => by omega)
    have TA : Hid (Kept (fun z => z < w4.heap.size ∨ zm5 ≤ z) w5 W9) := (k9.mono (T := (fun z => z < w4.heap.size ∨ zm5 ≤ z)) (fun z hz e => by omega))
    have O9 : W9.ownsRow w.heap.size 40 4 (.slice A5 (0 + 1) c5) (0 + 1) ([] ++ cs5) := own_keptS OO5.out k9 (fun z hz e => by have := HBz5.out z hz; omega)
    have PSs : PsAt ts i5 er5 (stP bodyP ts i1 er1) (fun b : Int × List Ex => b.1 = 0 ∧ ElsG (fun k => w.heap.size ≤ k) W9 4 1000000 (QE (fun k => w.heap.size ≤ k) W9) A5 (0 + 1) b.2) := by
      rw [PTT.out, setT_st]
      refine PS5.out.map _ ?_
      rintro ⟨u1, x1⟩ ⟨-, h1⟩
      refine ⟨rfl, elsg_own (Q := QE) O9 (by omega) rfl (fun j hj => ?_)⟩
      match j, hj with
      | 0, _ =>
        rw [Nat.zero_mul, List.drop_zero, List.nil_append, List.take_of_length_le (by rw [HL5.out]; omega)]
        exact QE_kept _ _ _ _ _ _ _ TA.out (fun k _ hd e => by omega) (fun k _ hd => by omega) h1
      | j + 1, hj => simp at hj
    refine bodyPost_ret (v := .agg #[.int .i64 0, .string s1, .slice A5 (0 + 1) c5, .int .i64 0, .int .i64 0, .slice none 0 0, .slice none 0 0]) (by simp [results, Tryz.results129, go_sem, sc0, sc1, sc2, sc3, sc4, sc5, sc6]) rfl ⟨_, rfl, KK, ⟨_, _, _, _, _, _, _, _, _, _, _, _, _, rfl⟩, i5, er5, HH.out.put P5.out.at_ (P5.out.blk.kept k9 (by omega)) KK, (PS1.out.then_ PSs).map _ ?_⟩
    rintro ⟨a1, b⟩ ⟨h1, h2, h3⟩
    injection h1 with h1
    refine ⟨_, rfl, A5, 0 + 1, c5, none, 0, 0, none, 0, 0, ?_, h3, ElsG.none_ _ _ _ _ _ _, ElsG.none_ _ _ _ _ _ _⟩
    rw [h1, h2]
  · have PTT := Lib.hid (PT.out.1 rfl)
    refine SK.out.mono ?_
    rintro e w3 ⟨rfl, p3, k3⟩
    have P3 : Hid (Par w3 g A c m ts (i1 + 1) dp er1) := p3
    have z3 := k3.size
    have X3 := Lib.hid (X2.out.kept k3 (by omega))
    have Y3 := Lib.hid (Y2.out.kept k3 (by omega))
    have K3 := Lib.hid (K2.out.then_ k3 (fun _ _ e => e))
    clear p3 k3 SK K2 P2 X2 Y2
    have fz : w3.frozen? ⟨w1.heap.size, 0, none⟩ = false := Y3.out.frozen 0
    have ez : w3.cell? ⟨w1.heap.size, 0, none⟩ = some (.int .i64 0) := Y3.out.cell 0
    go_upto_region 4 with fail
    have k4 := (Kept.refl (fun z => z = w1.heap.size) w3).setCell (p := ⟨w1.heap.size, 0, none⟩) (fun _ => rfl) (.int .i64 1)
    have Y4 : Hid (Blk (w3.setCell ⟨w1.heap.size, 0, none⟩ (.int .i64 1)) (w1.heap.size) 95 #[.int .i64 1, .string s1, .slice none 0 0, .int .i64 0, .int .i64 0, .slice none 0 0, .slice none 0 0]) := Y3.out.set_ 0 (.int .i64 1)
    have X4 := Lib.hid (X3.out.kept k4 (by omega))
    have K4 := Lib.hid (K3.out.then_ k4 (fun z hz e => by omega))
    have P4 := Lib.hid (HH.out.put P3.out.at_ (P3.out.blk.kept k4 (by omega)) K4.out)
    have J4 := Lib.hid k4
    have z4 := k4.size
    clear k4 Y3 X3 K3 P3
    generalize w3.setCell ⟨w1.heap.size, 0, none⟩ (.int .i64 1) = W4 at *
    clear fz ez
    go_upto_region 4 with fail
    obtain ⟨vo5, hvo5⟩ : ∃ v : Value, v = .slice none 0 0 := ⟨_, rfl⟩
    have OW5 : Hid (W4.drew.ownsRow w.heap.size 40 4 vo5 (0) []) := by rw [hvo5]; exact World.ownsRow.drew (World.ownsRow_nil W4 w.heap.size 40 4)
    have KD5 : Hid (∀ z, vo5.ownBlock = some z → ¬ z = g) := by rw [hvo5]; exact fun z hz _ => absurd (show (none : Option Nat) = some z from hz) (by simp)
    have fw5 : W4.drew.frozen? ⟨w1.heap.size, 2, none⟩ = false := Y4.out.frozen 2
    have qw5 : W4.drew.cell? ⟨w1.heap.size, 2, none⟩ = some vo5 := by rw [hvo5]; exact Y4.out.cell 2
    have PD5 := Lib.hid (P4.out.below (Below.refl _ W4).drew)
    have CL5 := Lib.hid (EX.out (i1 + 1) er1 W4.drew PD5.out)
    have zd5 : W4.drew.heap.size = W4.heap.size := rfl
    have Q5 : Hid (∀ w', Blk w' (w1.heap.size) 95 #[.int .i64 1, .string s1, .slice none 0 0, .int .i64 0, .int .i64 0, .slice none 0 0, .slice none 0 0] → w'.cell? ⟨w1.heap.size, 2, none⟩ = some vo5 ∧ w'.frozen? ⟨w1.heap.size, 2, none⟩ = false) := by rw [hvo5]; exact fun _ h => ⟨h.cell 2, h.frozen 2⟩
    have YD5 := Lib.hid (Y4.out.drew)
    have HVO5 := Lib.hid hvo5
    clear hvo5
    obtain ⟨j0, hj0, hy0, hy1, hy2⟩ := info_parts info_pexpr
    have HV5 : Hid (∀ z, vo5.ownBlock = some z → w.heap.size < z ∧ z < W4.heap.size ∧ z ≠ w1.heap.size) := by rw [HVO5.out]; exact fun z hz => absurd (show (none : Option Nat) = some z from hz) (by simp)
    go_cut [] (fun wc => Hid (AppTo W4 g c A m ts dp (stP exprP ts (i1 + 1) er1) w.heap.size (w1.heap.size) (fun v : Value => #[.int .i64 1, .string s1, v, .int .i64 0, .int .i64 0, .slice none 0 0, .slice none 0 0]) vo5 0 [] wc))
    case first =>
      go_region_law
        (first
          | (refine step_append_any _ (by rfl) (.tmp 11) (.tmp 14) _ (by rfl) w.heap.size 40 j0 _ 4 56 Tryz.underlying38 hj0 hy0 hy1 hy2 rfl (by omega) vo5 (0) [] (by rfl) o5.out _ _ 1 1 [.int .i64 op5, .int .i64 N5, .string nm5, .slice B5 l5 q5] (by rfl) RD5.out ON5.out (by unfold maxLen; omega) (by omega) (by simp; omega) ?_; intro u5 x5 r5 g5 t5; obtain ⟨A5, c5, rfl, hb5⟩ := own_is r5; have yz5 := (y5.alloc (.cells #[.int .i64 op5, .int .i64 N5, .string nm5, .slice B5 l5 q5] 40)).kept (Kept.of_grown (S := fun z => vo5.ownBlock = some z) g5 (fun _ e => e)) (fun e => by rw [HVO5.out] at e; exact absurd (show (none : Option Nat) = some _ from e) (by simp)); obtain ⟨qz5, fz5⟩ := Q5.out _ yz5; have R5 := Lib.hid r5; have G5 := Lib.hid g5; have T5 := Lib.hid t5; clear r5 g5 t5)
          | (go_simp; go_at_call 40; (with_reducible refine CL5.out.mono ?_); rintro e w5 ⟨v5, rfl, k5, ⟨op5, N5, nm5, B5, l5, q5, rfl⟩, i5, er5, p5, ps5⟩; have y5 := YD5.out.kept k5 (by omega); obtain ⟨qy5, fy5⟩ := Q5.out _ y5; obtain ⟨qx5, fx5⟩ := Q5.out _ (y5.alloc (.cells #[.int .i64 op5, .int .i64 N5, .string nm5, .slice B5 l5 q5] 40)); have z5 := k5.size; have o5 := Lib.hid (World.ownsRow.alloc (own_keptS OW5.out k5 KD5.out) (.cells #[.int .i64 op5, .int .i64 N5, .string nm5, .slice B5 l5 q5] 40)); have RD5 := Lib.hid (reads_new w5 40 #[.int .i64 op5, .int .i64 N5, .string nm5, .slice B5 l5 q5] 4 rfl); have ON5 := Lib.hid (one4 op5 N5 nm5 B5 l5 q5); have K5 := Lib.hid k5; have P5 := Lib.hid p5; have PS5 := Lib.hid ps5; clear p5 ps5 k5))
      all_goals
        go_wp2_with fail
        go_meet
        case rel => exact app_mk (yc := (fun v : Value => #[.int .i64 1, .string s1, v, .int .i64 0, .int .i64 0, .slice none 0 0, .slice none 0 0])) HH.out K4.out (Nat.le_refl _) K5.out P5.out PS5.out (by rw [HVO5.out]; exact y5) R5.out G5.out T5.out HV5.out (by omega) (by omega) (by omega) (fun _ _ => rfl)
    case rest =>
    obtain ⟨A5, c5, cs5, i5, er5, zm5, y5, p5, k5, o5, hl5, ps5, za5, zb5, hb5⟩ := hcut.out
    obtain ⟨w5, rfl⟩ : ∃ x, x = wc := ⟨_, rfl⟩
    clear hcut CL5 PD5 Q5 YD5 OW5 fw5 qw5 hj0 hy0 hy1 hy2
    have z5 := k5.size
    have Y5 : Hid (Blk w5 (w1.heap.size) 95 #[.int .i64 1, .string s1, .slice A5 (0 + 1) c5, .int .i64 0, .int .i64 0, .slice none 0 0, .slice none 0 0]) := y5
    have HW5 := Lib.hid HV5.out
    have HZ5 : Hid (∀ z, vo5.ownBlock = some z → 0 ≤ z) := by rw [HVO5.out]; exact fun z _ => Nat.zero_le z
    have X5 := Lib.hid (X4.out.kept k5 (fun e => by rcases e with e | e | e <;> first | omega | (have := HW5.out _ e; omega)))
    have K5 := Lib.hid (K4.out.then_ k5 (fun z hz e => by rcases e with e | e | e <;> first | omega | (have := HW5.out _ e; omega)))
    have P5 := Lib.hid p5
    have PS5 := Lib.hid ps5
    have J5 := Lib.hid k5
    have OO5 := Lib.hid o5
    have HL5 := Lib.hid hl5
    have HB5 := Lib.hid hb5
    clear p5 k5 ps5 y5 o5 hl5 hb5 K4 P4 X4 Y4
    have HBz5 : Hid (∀ z, (Value.slice A5 (0 + 1) c5).ownBlock = some z → zm5 ≤ z) := fun z hz => (HB5.out z hz).resolve_left (by rw [HVO5.out]; exact fun h => absurd (show (none : Option Nat) = some z from h) (by simp))
    have hol5 := Lib.hid (own_lt OO5.out)
    go_wp2_with fail
    refine (MB.out i5 er5 w5 P5.out).mono ?_
    rintro e w6 ⟨v6, rfl, k6, rfl, i6, er6, p6, ps6⟩
    have z6 := k6.size
    have X6 := Lib.hid (X5.out.kept k6 (by omega))
    have Y6 := Lib.hid (Y5.out.kept k6 (by omega))
    have K6 := Lib.hid (K5.out.then_ k6 (fun _ _ e => e))
    have P6 := Lib.hid p6
    have PS6 := Lib.hid (PS5.out.then_ ps6)
    have J6 := Lib.hid k6
    clear p6 k6 ps6 K5 P5 X5 Y5 PS5
    go_wp2_with fail
    refine (ME.out i6 er6 w6 P6.out).mono ?_
    rintro e w7 ⟨v7, rfl, k7, rfl, i7, er7, p7, ps7⟩
    have z7 := k7.size
    have X7 := Lib.hid (X6.out.kept k7 (by omega))
    have Y7 := Lib.hid (Y6.out.kept k7 (by omega))
    have K7 := Lib.hid (K6.out.then_ k7 (fun _ _ e => e))
    have P7 := Lib.hid p7
    have PS7 := Lib.hid (PS6.out.then_ ps7)
    have J7 := Lib.hid k7
    clear p7 k7 ps7 K6 P6 X6 Y6 PS6
    have OZ : Hid (w7.ownsRow w.heap.size 40 4 (.slice A5 (0 + 1) c5) (0 + 1) ([] ++ cs5)) := own_keptS (own_keptS OO5.out J6.out (fun z hz e => by have := HBz5.out z hz; omega)) J7.out (fun z hz e => by have := HBz5.out z hz; omega)
    go_upto_region 7 with fail
    obtain ⟨vo8, hvo8⟩ : ∃ v : Value, v = .slice A5 (0 + 1) c5 := ⟨_, rfl⟩
    have OW8 : Hid (w7.drew.ownsRow w.heap.size 40 4 vo8 ((0 + 1)) ([] ++ cs5)) := by rw [hvo8]; exact World.ownsRow.drew OZ.out
    have KD8 : Hid (∀ z, vo8.ownBlock = some z → ¬ z = g) := by rw [hvo8]; exact fun z hz e => by have := HBz5.out z hz; omega
    have fw8 : w7.drew.frozen? ⟨w1.heap.size, 2, none⟩ = false := Y7.out.frozen 2
    have qw8 : w7.drew.cell? ⟨w1.heap.size, 2, none⟩ = some vo8 := by rw [hvo8]; exact Y7.out.cell 2
    have PD8 := Lib.hid (P7.out.below (Below.refl _ w7).drew)
    have CL8 := Lib.hid (EX.out i7 er7 w7.drew PD8.out)
    have zd8 : w7.drew.heap.size = w7.heap.size := rfl
    have Q8 : Hid (∀ w', Blk w' (w1.heap.size) 95 #[.int .i64 1, .string s1, .slice A5 (0 + 1) c5, .int .i64 0, .int .i64 0, .slice none 0 0, .slice none 0 0] → w'.cell? ⟨w1.heap.size, 2, none⟩ = some vo8 ∧ w'.frozen? ⟨w1.heap.size, 2, none⟩ = false) := by rw [hvo8]; exact fun _ h => ⟨h.cell 2, h.frozen 2⟩
    have YD8 := Lib.hid (Y7.out.drew)
    have HVO8 := Lib.hid hvo8
    clear hvo8
    obtain ⟨j0, hj0, hy0, hy1, hy2⟩ := info_parts info_pexpr
    have HV8 : Hid (∀ z, vo8.ownBlock = some z → w.heap.size < z ∧ z < w7.heap.size ∧ z ≠ w1.heap.size) := by rw [HVO8.out]; exact fun z hz => ⟨by have := HBz5.out z hz; omega, by have := hol5.out z hz; omega, by have := HBz5.out z hz; omega⟩
    go_cut [] (fun wc => Hid (AppTo w7 g c A m ts dp (stP exprP ts i7 er7) w.heap.size (w1.heap.size) (fun v : Value => #[.int .i64 1, .string s1, v, .int .i64 0, .int .i64 0, .slice none 0 0, .slice none 0 0]) vo8 (0 + 1) ([] ++ cs5) wc))
    case first =>
      go_region_law
        (first
          | (refine step_append_any _ (by rfl) (.tmp 22) (.tmp 25) _ (by rfl) w.heap.size 40 j0 _ 4 56 Tryz.underlying38 hj0 hy0 hy1 hy2 rfl (by omega) vo8 ((0 + 1)) ([] ++ cs5) (by rfl) o8.out _ _ 1 1 [.int .i64 op8, .int .i64 N8, .string nm8, .slice B8 l8 q8] (by rfl) RD8.out ON8.out (by unfold maxLen; omega) (by omega) (by simp; omega) ?_; intro u8 x8 r8 g8 t8; obtain ⟨A8, c8, rfl, hb8⟩ := own_is r8; have yz8 := (y8.alloc (.cells #[.int .i64 op8, .int .i64 N8, .string nm8, .slice B8 l8 q8] 40)).kept (Kept.of_grown (S := fun z => vo8.ownBlock = some z) g8 (fun _ e => e)) (fun e => by rw [HVO8.out] at e; have := HBz5.out _ e; omega); obtain ⟨qz8, fz8⟩ := Q8.out _ yz8; have R8 := Lib.hid r8; have G8 := Lib.hid g8; have T8 := Lib.hid t8; clear r8 g8 t8)
          | (go_simp; go_at_call 40; (with_reducible refine CL8.out.mono ?_); rintro e w8 ⟨v8, rfl, k8, ⟨op8, N8, nm8, B8, l8, q8, rfl⟩, i8, er8, p8, ps8⟩; have y8 := YD8.out.kept k8 (by omega); obtain ⟨qy8, fy8⟩ := Q8.out _ y8; obtain ⟨qx8, fx8⟩ := Q8.out _ (y8.alloc (.cells #[.int .i64 op8, .int .i64 N8, .string nm8, .slice B8 l8 q8] 40)); have z8 := k8.size; have o8 := Lib.hid (World.ownsRow.alloc (own_keptS OW8.out k8 KD8.out) (.cells #[.int .i64 op8, .int .i64 N8, .string nm8, .slice B8 l8 q8] 40)); have RD8 := Lib.hid (reads_new w8 40 #[.int .i64 op8, .int .i64 N8, .string nm8, .slice B8 l8 q8] 4 rfl); have ON8 := Lib.hid (one4 op8 N8 nm8 B8 l8 q8); have K8 := Lib.hid k8; have P8 := Lib.hid p8; have PS8 := Lib.hid ps8; clear p8 ps8 k8))
      all_goals
        go_wp2_with fail
        go_meet
        case rel => exact app_mk (yc := (fun v : Value => #[.int .i64 1, .string s1, v, .int .i64 0, .int .i64 0, .slice none 0 0, .slice none 0 0])) HH.out K7.out (Nat.le_refl _) K8.out P8.out PS8.out (by rw [HVO8.out]; exact y8) R8.out G8.out T8.out HV8.out (by omega) (by omega) (by omega) (fun _ _ => rfl)
    case rest =>
    obtain ⟨A8, c8, cs8, i8, er8, zm8, y8, p8, k8, o8, hl8, ps8, za8, zb8, hb8⟩ := hcut.out
    obtain ⟨w8, rfl⟩ : ∃ x, x = wc := ⟨_, rfl⟩
    clear hcut CL8 PD8 Q8 YD8 OW8 fw8 qw8 hj0 hy0 hy1 hy2
    have z8 := k8.size
    have Y8 : Hid (Blk w8 (w1.heap.size) 95 #[.int .i64 1, .string s1, .slice A8 ((0 + 1) + 1) c8, .int .i64 0, .int .i64 0, .slice none 0 0, .slice none 0 0]) := y8
    have HW8 := Lib.hid HV8.out
    have HZ8 : Hid (∀ z, vo8.ownBlock = some z → zm5 ≤ z) := by rw [HVO8.out]; exact HBz5.out
    have X8 := Lib.hid (X7.out.kept k8 (fun e => by rcases e with e | e | e <;> first | omega | (have := HW8.out _ e; omega)))
    have K8 := Lib.hid (K7.out.then_ k8 (fun z hz e => by rcases e with e | e | e <;> first | omega | (have := HW8.out _ e; omega)))
    have P8 := Lib.hid p8
    have PS8 := Lib.hid (PS7.out.then_ ps8)
    have J8 := Lib.hid k8
    have OO8 := Lib.hid o8
    have HL8 := Lib.hid hl8
    have HB8 := Lib.hid hb8
    clear p8 k8 ps8 y8 o8 hl8 hb8 K7 P7 X7 Y7 PS7
    go_upto_region 8 with fail
    have qc0 : w8.cell? ⟨w1.heap.size, 0, none⟩ = some (.int .i64 1) := Y8.out.cell 0
    have qc1 : w8.cell? ⟨w1.heap.size, 1, none⟩ = some (.string s1) := Y8.out.cell 1
    have qc2 : w8.cell? ⟨w1.heap.size, 2, none⟩ = some (.slice A8 ((0 + 1) + 1) c8) := Y8.out.cell 2
    have qc3 : w8.cell? ⟨w1.heap.size, 3, none⟩ = some (.int .i64 0) := Y8.out.cell 3
    have qc4 : w8.cell? ⟨w1.heap.size, 4, none⟩ = some (.int .i64 0) := Y8.out.cell 4
    have qc5 : w8.cell? ⟨w1.heap.size, 5, none⟩ = some (.slice none 0 0) := Y8.out.cell 5
    have qc6 : w8.cell? ⟨w1.heap.size, 6, none⟩ = some (.slice none 0 0) := Y8.out.cell 6
    have hx := X8.out
    have sc0 : w8.cell? ⟨w.heap.size, 0, none⟩ = some (.int .i64 0) := hx.cell 0
    have sc1 : w8.cell? ⟨w.heap.size, 1, none⟩ = some (.string ⟨#[]⟩) := hx.cell 1
    have sc2 : w8.cell? ⟨w.heap.size, 2, none⟩ = some (.slice none 0 0) := hx.cell 2
    have sc3 : w8.cell? ⟨w.heap.size, 3, none⟩ = some (.int .i64 0) := hx.cell 3
    have sc4 : w8.cell? ⟨w.heap.size, 4, none⟩ = some (.int .i64 0) := hx.cell 4
    have sc5 : w8.cell? ⟨w.heap.size, 5, none⟩ = some (.slice none 0 0) := hx.cell 5
    have sc6 : w8.cell? ⟨w.heap.size, 6, none⟩ = some (.slice none 0 0) := hx.cell 6
    have tc0 := hx.frozen 0
    have tc1 := hx.frozen 1
    have tc2 := hx.frozen 2
    have tc3 := hx.frozen 3
    have tc4 := hx.frozen 4
    have tc5 := hx.frozen 5
    have tc6 := hx.frozen 6
    go_wp2_with fail
    have X9 := hx.put7 (.int .i64 1) (.string s1) (.slice A8 (0 + 1 + 1) c8) (.int .i64 0) (.int .i64 0) (.slice none 0 0) (.slice none 0 0)
    have k9 := Kept.put7 w8 w.heap.size (.int .i64 1) (.string s1) (.slice A8 (0 + 1 + 1) c8) (.int .i64 0) (.int .i64 0) (.slice none 0 0) (.slice none 0 0)
    generalize ((((((w8.setCell ⟨w.heap.size, 0, none⟩ (.int .i64 1)).setCell ⟨w.heap.size, 1, none⟩ (.string s1)).setCell ⟨w.heap.size, 2, none⟩ (.slice A8 (0 + 1 + 1) c8)).setCell ⟨w.heap.size, 3, none⟩ (.int .i64 0)).setCell ⟨w.heap.size, 4, none⟩ (.int .i64 0)).setCell ⟨w.heap.size, 5, none⟩ (.slice none 0 0)).setCell ⟨w.heap.size, 6, none⟩ (.slice none 0 0) = W9 at *
    clear sc0 sc1 sc2 sc3 sc4 sc5 sc6 qc0 qc1 qc2 qc3 qc4 qc5 qc6
    have sc0 : W9.cell? ⟨w.heap.size, 0, none⟩ = some (.int .i64 1) := X9.cell 0
    have sc1 : W9.cell? ⟨w.heap.size, 1, none⟩ = some (.string s1) := X9.cell 1
    have sc2 : W9.cell? ⟨w.heap.size, 2, none⟩ = some (.slice A8 (0 + 1 + 1) c8) := X9.cell 2
    have sc3 : W9.cell? ⟨w.heap.size, 3, none⟩ = some (.int .i64 0) := X9.cell 3
    have sc4 : W9.cell? ⟨w.heap.size, 4, none⟩ = some (.int .i64 0) := X9.cell 4
    have sc5 : W9.cell? ⟨w.heap.size, 5, none⟩ = some (.slice none 0 0) := X9.cell 5
    have sc6 : W9.cell? ⟨w.heap.size, 6, none⟩ = some (.slice none 0 0) := X9.cell 6
    have KK : Kept (fun z => z = g) w W9 := K8.out.then_ k9 (fun z hz e => by omega)
    have TA : Hid (Kept (fun z => z < W4.heap.size ∨ zm5 ≤ z) w5 W9) := ((J6.out.mono (T := (fun z => z < W4.heap.size ∨ zm5 ≤ z)) (fun z hz e => by omega)).then_ ((J7.out.mono (T := (fun z => z < W4.heap.size ∨ zm5 ≤ z)) (fun z hz e => by omega)).then_ ((J8.out.mono (T := (fun z => z < W4.heap.size ∨ zm5 ≤ z)) (fun z hz e => by rcases e with e | e | e <;> first | omega | (have := HW8.out _ e; have := HZ8.out _ e; omega))).then_ (k9.mono (T := (fun z => z < W4.heap.size ∨ zm5 ≤ z)) (fun z hz e => by omega)) (fun _ _ e => e.imp (fun e => e) (fun e => e))) (fun _ _ e => e.imp (fun e => e) (fun e => e))) (fun _ _ e => e.imp (fun e => e) (fun e => e)))
    have TB : Hid (Kept (fun z => z < w7.heap.size ∨ zm8 ≤ z) w8 W9) := (k9.mono (T := (fun z => z < w7.heap.size ∨ zm8 ≤ z)) (fun z hz e => by omega))
    have O9 : W9.ownsRow w.heap.size 40 4 (.slice A8 (0 + 1 + 1) c8) (0 + 1 + 1) ([] ++ cs5 ++ cs8) := own_keptS OO8.out k9 (fun z hz e => by rcases HB8.out z hz with h | h <;> first | omega | (have := HZ8.out z h; omega))
    have PSs : PsAt ts i8 er8 (stP bodyP ts i1 er1) (fun b : Int × List Ex => b.1 = 1 ∧ ElsG (fun k => w.heap.size ≤ k) W9 4 1000000 (QE (fun k => w.heap.size ≤ k) W9) A8 (0 + 1 + 1) b.2) := by
      rw [PTT.out.2, putT_st]
      refine PS8.out.map _ ?_
      rintro ⟨⟨⟨x1, u1⟩, u2⟩, x2⟩ ⟨⟨⟨h1, -⟩, -⟩, h2⟩
      refine ⟨rfl, elsg_own (Q := QE) O9 (by omega) rfl (fun j hj => ?_)⟩
      match j, hj with
      | 0, _ =>
        rw [Nat.zero_mul, List.drop_zero, List.nil_append, List.take_append_of_le_length (by rw [HL5.out]; omega), List.take_of_length_le (by rw [HL5.out]; omega)]
        exact QE_kept _ _ _ _ _ _ _ TA.out (fun k _ hd e => by omega) (fun k _ hd => by omega) h1
      | 1, _ =>
        rw [Nat.one_mul, List.nil_append, List.drop_append_of_le_length (by rw [HL5.out]; omega), List.drop_of_length_le (by rw [HL5.out]; omega), List.nil_append, List.take_of_length_le (by rw [HL8.out]; omega)]
        exact QE_kept _ _ _ _ _ _ _ TB.out (fun k _ hd e => by omega) (fun k _ hd => by omega) h2
      | j + 2, hj => simp at hj; omega
    refine bodyPost_ret (v := .agg #[.int .i64 1, .string s1, .slice A8 (0 + 1 + 1) c8, .int .i64 0, .int .i64 0, .slice none 0 0, .slice none 0 0]) (by simp [results, Tryz.results129, go_sem, sc0, sc1, sc2, sc3, sc4, sc5, sc6]) rfl ⟨_, rfl, KK, ⟨_, _, _, _, _, _, _, _, _, _, _, _, _, rfl⟩, i8, er8, HH.out.put P8.out.at_ (P8.out.blk.kept k9 (by omega)) KK, (PS1.out.then_ PSs).map _ ?_⟩
    rintro ⟨a1, b⟩ ⟨h1, h2, h3⟩
    injection h1 with h1
    refine ⟨_, rfl, A8, 0 + 1 + 1, c8, none, 0, 0, none, 0, 0, ?_, h3, ElsG.none_ _ _ _ _ _ _, ElsG.none_ _ _ _ _ _ _⟩
    rw [h1, h2]
end Go.Proofs.YtdgekckedchjbaaGreatDoor
namespace Go.Proofs.YtdgekckedchjbaaGreatDoor
open Go.RowKit

def elP (d : Nat) (r : List Tk) : PS (List St) := if hasT [101, 108, 115, 101] r then innerP d r.tail else .ok [] r
def condP (d : Nat) (r : List Tk) : PS St := (exprP r).bind fun e r => (mustP [116, 104, 101, 110] r).bind fun _ r => (innerP d r).bind fun l r => (elP d r).bind fun el r => (mustP [101, 110, 100] r).bind fun _ r => .ok (.mk 2 [] [e] 0 0 l el) r
def forP (d : Nat) (r : List Tk) : PS St := (nameP r).bind fun nm r => (signedP r).bind fun lo r => (signedP r).bind fun hi r => (mustP [100, 111] r).bind fun _ r => (innerP d r).bind fun l r => (mustP [101, 110, 100] r).bind fun _ r => .ok (.mk 3 nm [] lo hi l []) r
def refP (r : List Tk) : PS St := .ok (.mk 4 [] [] 0 0 [] []) r
def rollP (r : List Tk) : PS St := (nameP r).bind fun nm r => (numP r).bind fun n r => .ok (.mk 5 nm [] n 0 [] []) r
def seatP (r : List Tk) : PS St := (exprP r).bind fun e r => .ok (.mk 6 [] [e] 0 0 [] []) r
def overP (r : List Tk) : PS St := .ok (.mk 7 [] [] 0 0 [] []) r
def payP (r : List Tk) : PS St := (exprP r).bind fun e r => (exprP r).bind fun e2 r => .ok (.mk 8 [] [e, e2] 0 0 [] []) r
def restP (r : List Tk) : PS St := (exprP r).bind fun e r => .ok (.mk 9 [] [e] 0 0 [] []) r
theorem stmt_word (d : Nat) (t : Tk) (r : List Tk) (hk : t.kind = 3) : stmtD (d + 1) (t :: r) =
    if t.text = [105, 102] then condP d r else if t.text = [102, 111, 114] then forP d r else if t.text = [114, 101, 102, 117, 115, 101] then refP r else if t.text = [114, 111, 108, 108] then rollP r
    else if t.text = [115, 101, 97, 116] then seatP r else if t.text = [111, 118, 101, 114] then overP r else if t.text = [112, 97, 121] then payP r else restP r := by
  have e1 : kindT 1 (t :: r) = false := by simp [kindT, hk]
  have e2 : wordP (t :: r) = .ok t.text r := by simp [wordP, takeP, hk, PS.bind]
  simp only [stmtD]
  rw [e1, if_neg (by decide), e2]
  rfl
theorem stmt_name (d : Nat) (r : List Tk) (hk : kindT 1 r = true) : stmtD (d + 1) r = assignP r := by
  simp only [stmtD]
  rw [if_pos hk]
theorem SE.deep {D : Nat → Prop} {w : World} : ∀ (n : Nat) (cs : List Value) (s : St), SE D w n cs s → SE D w (n + 1) cs s
  | 0, _, _, h => absurd h id
  | n + 1, cs, .mk kind nm E lo hi L El, h => by
    obtain ⟨A1, l1, c1, A2, l2, c2, A3, l3, c3, h1, h2, h3, h4⟩ := h
    exact ⟨A1, l1, c1, A2, l2, c2, A3, l3, c3, h1, h2, h3.kept (Kept.refl (fun _ => False) _) (fun _ _ _ h => h) (fun _ _ h => h) (SE.deep n), h4.kept (Kept.refl (fun _ => False) _) (fun _ _ _ h => h) (fun _ _ h => h) (SE.deep n)⟩
theorem SE.deeper {D : Nat → Prop} {w : World} {n m : Nat} (hm : n ≤ m) {cs : List Value} {s : St} (h : SE D w n cs s) : SE D w m cs s := by
  obtain ⟨d, rfl⟩ : ∃ d, m = n + d := ⟨m - n, by omega⟩
  induction d with
  | zero => exact h
  | succ d ih => exact SE.deep _ _ _ (ih (by omega))
theorem elsg_blk {base : Nat} {w : World} {t : TypeId} {b : Nat} {cs : List Value} {x : Ex} (hb : Blk w b t (List.toArray cs)) (hl : cs.length = 4) (hB : base ≤ b) (h : QE (fun k => base ≤ k) w cs x) : ElsG (fun k => base ≤ k) w 4 1000000 (QE (fun k => base ≤ k) w) (some ⟨b, 0, none⟩) 1 [x] :=
  elsg_own (Q := QE) (own_one hb hl hB) (by omega) rfl fun i hi => by
    match i, hi with
    | 0, _ =>
      rw [Nat.zero_mul, List.drop_zero, List.take_of_length_le (by omega)]
      exact h
    | i + 1, hi => simp at hi
theorem IsRow.els {α : Type} {s : Nat} {Q : Cel α} {b : Nat} {w : World} {l : List α} {A : Option Addr} {n c : Nat} (h : IsRow s Q b w l (.slice A n c)) : ElsG (fun k => b ≤ k) w s 1000000 (Q (fun k => b ≤ k) w) A n l := by
  obtain ⟨A', n', c', hv, h⟩ := h
  injection hv with h1 h2 h3
  subst h1
  subst h2
  exact h
theorem IsEl.cells {α : Type} {Q : Cel α} {b : Nat} {w : World} {a : α} {cs : List Value} (h : IsEl Q b w a (.agg (List.toArray cs))) : Q (fun k => b ≤ k) w cs a := by
  obtain ⟨cs', hv, h⟩ := h
  injection hv with hv
  have := congrArg Array.toList hv
  simp only at this
  rw [this]
  exact h
theorem cond_st (d : Nat) (ts : List Tk) (i : Nat) (er : Int) : stP (condP d) ts i er = (((((stP exprP ts i er).bind fun a r => ((mustP [116, 104, 101, 110]) r).bind fun b r => .ok (a, b) r).bind fun a r => ((innerP d) r).bind fun b r => .ok (a, b) r).bind fun a r => ((elP d) r).bind fun b r => .ok (a, b) r).bind fun a r => ((mustP [101, 110, 100]) r).bind fun b r => .ok (a, b) r).bind fun x r => .ok ((fun x : (((Ex × Unit) × List St) × List St) × Unit => St.mk 2 [] [x.1.1.1.1] 0 0 x.1.1.2 x.1.2) x) r := by
  by_cases he : er = 0
  · unfold stP
    rw [if_pos he, if_pos he]
    unfold condP
    simp only [PS.bind_assoc, PS.ok_bind]
    all_goals rfl
  · unfold stP
    rw [if_neg he, if_neg he]
    rfl
theorem for_st (d : Nat) (ts : List Tk) (i : Nat) (er : Int) : stP (forP d) ts i er = ((((((stP nameP ts i er).bind fun a r => (signedP r).bind fun b r => .ok (a, b) r).bind fun a r => (signedP r).bind fun b r => .ok (a, b) r).bind fun a r => ((mustP [100, 111]) r).bind fun b r => .ok (a, b) r).bind fun a r => ((innerP d) r).bind fun b r => .ok (a, b) r).bind fun a r => ((mustP [101, 110, 100]) r).bind fun b r => .ok (a, b) r).bind fun x r => .ok ((fun x : ((((List UInt8 × Int) × Int) × Unit) × List St) × Unit => St.mk 3 x.1.1.1.1.1 [] x.1.1.1.1.2 x.1.1.1.2 x.1.2 []) x) r := by
  by_cases he : er = 0
  · unfold stP
    rw [if_pos he, if_pos he]
    unfold forP
    simp only [PS.bind_assoc, PS.ok_bind]
    all_goals rfl
  · unfold stP
    rw [if_neg he, if_neg he]
    rfl
theorem roll_st  (ts : List Tk) (i : Nat) (er : Int) : stP rollP ts i er = ((stP nameP ts i er).bind fun a r => (numP r).bind fun b r => .ok (a, b) r).bind fun x r => .ok ((fun x : List UInt8 × Int => St.mk 5 x.1 [] x.2 0 [] []) x) r := by
  by_cases he : er = 0
  · unfold stP
    rw [if_pos he, if_pos he]
    unfold rollP
    simp only [PS.bind_assoc, PS.ok_bind]
    all_goals rfl
  · unfold stP
    rw [if_neg he, if_neg he]
    rfl
theorem seat_st  (ts : List Tk) (i : Nat) (er : Int) : stP seatP ts i er = (stP exprP ts i er).bind fun x r => .ok ((fun x : Ex => St.mk 6 [] [x] 0 0 [] []) x) r := by
  by_cases he : er = 0
  · unfold stP
    rw [if_pos he, if_pos he]
    unfold seatP
    all_goals rfl
  · unfold stP
    rw [if_neg he, if_neg he]
    rfl
theorem rest_st  (ts : List Tk) (i : Nat) (er : Int) : stP restP ts i er = (stP exprP ts i er).bind fun x r => .ok ((fun x : Ex => St.mk 9 [] [x] 0 0 [] []) x) r := by
  by_cases he : er = 0
  · unfold stP
    rw [if_pos he, if_pos he]
    unfold restP
    all_goals rfl
  · unfold stP
    rw [if_neg he, if_neg he]
    rfl
theorem pay_st  (ts : List Tk) (i : Nat) (er : Int) : stP payP ts i er = ((stP exprP ts i er).bind fun a r => (exprP r).bind fun b r => .ok (a, b) r).bind fun x r => .ok ((fun x : Ex × Ex => St.mk 8 [] [x.1, x.2] 0 0 [] []) x) r := by
  by_cases he : er = 0
  · unfold stP
    rw [if_pos he, if_pos he]
    unfold payP
    simp only [PS.bind_assoc, PS.ok_bind]
    all_goals rfl
  · unfold stP
    rw [if_neg he, if_neg he]
    rfl
set_option maxHeartbeats 4000000 in
set_option maxRecDepth 100000 in
theorem condition_any (g c : Nat) (A : Option Addr) (m : Nat → Nat) (ts : List Tk) (d : Nat) (H : StmtOk g c A m ts d) (dp : Int) (hd : dp + 1 + (d : Int) = 16) (h0 : 0 ≤ dp) (i : Nat) (er : Int) (w : World) (h : Par w g A c m ts i dp er) :
    Calls Tryz.prog 130 #[.pointer (some ⟨g, 0, none⟩)] w (StepTo w g c A m ts dp (stP (condP d) ts i er) (IsEl (QS (d + 1)) w.heap.size) ShSt) := by
  have f0 : Below w.heap.size w (w.alloc (.cells #[.int .i64 0, .string ⟨#[]⟩, .slice none 0 0, .int .i64 0, .int .i64 0, .slice none 0 0, .slice none 0 0] 95)) := (Below.refl _ w).al _
  have x0 := Blk.new w 95 #[.int .i64 0, .string ⟨#[]⟩, .slice none 0 0, .int .i64 0, .int .i64 0, .slice none 0 0, .slice none 0 0]
  have hgl := h.blk.lt
  have HH := Lib.hid h
  have P0 := Lib.hid (h.below f0)
  have F0 := Lib.hid f0
  have X0 := Lib.hid x0
  have z0 : (w.alloc (.cells #[.int .i64 0, .string ⟨#[]⟩, .slice none 0 0, .int .i64 0, .int .i64 0, .slice none 0 0, .slice none 0 0] 95)).heap.size = w.heap.size + 1 := by simp
  have K0 := Lib.hid (Kept.of_below (S := fun z => z = g) f0)
  have EX := Lib.hid (fun i er w h => exprP_any g c A m ts i dp er w h)
  have MT := Lib.hid (fun i er w h => must_step g c A m ts i dp er [116, 104, 101, 110] w h)
  have MD := Lib.hid (fun i er w h => must_step g c A m ts i dp er [101, 110, 100] w h)
  have INN := Lib.hid (fun i er w h => pinner_any g c A m ts d H dp hd h0 i er w h)
  rw [cond_st]
  clear H
  clear h f0 x0
  go_enter Tryz.func130, Tryz.ntmps130
  go_wp2_with fail
  generalize w.alloc (.cells #[.int .i64 0, .string ⟨#[]⟩, .slice none 0 0, .int .i64 0, .int .i64 0, .slice none 0 0, .slice none 0 0] 95) = W0 at *
  refine (EX.out i er W0 P0.out).mono ?_
  rintro e w1 ⟨v1, rfl, k1, ⟨op1, N1, nm1, B1, l1, q1, rfl⟩, i1, er1, p1, ps1⟩
  have z1 := k1.size
  have X1 := Lib.hid (X0.out.kept k1 (by omega))
  have K1 := Lib.hid (K0.out.then_ k1 (fun _ _ e => e))
  have P1 := Lib.hid p1
  have PS1 := Lib.hid ps1
  have J1 := Lib.hid k1
  clear p1 k1 ps1 K0 P0 X0
  go_upto_region 2 with fail
  have f2 : Below w1.heap.size w1 ((w1.alloc (.cells #[.int .i64 op1, .int .i64 N1, .string nm1, .slice B1 l1 q1] 40)).alloc (.cells #[.int .i64 2, .string ⟨#[]⟩, .slice (some ⟨w1.heap.size, 0, none⟩) 1 1, .int .i64 0, .int .i64 0, .slice none 0 0, .slice none 0 0] 95)) := ((Below.refl _ _).al _).al _
  obtain ⟨b2, y2⟩ := two_new w1 40 95 #[.int .i64 op1, .int .i64 N1, .string nm1, .slice B1 l1 q1] #[.int .i64 2, .string ⟨#[]⟩, .slice (some ⟨w1.heap.size, 0, none⟩) 1 1, .int .i64 0, .int .i64 0, .slice none 0 0, .slice none 0 0]
  have B2 := Lib.hid b2
  have Y2 := Lib.hid y2
  clear b2 y2
  have P2 := Lib.hid (P1.out.below f2)
  have X2 := Lib.hid (X1.out.below f2 X1.out.lt)
  have K2 := Lib.hid (K1.out.then_ (Kept.of_below (S := fun z => z = g) f2) (fun _ _ e => e))
  have J2 := Lib.hid (Kept.of_below (S := fun z => z = g) f2)
  have z2 : ((w1.alloc (.cells #[.int .i64 op1, .int .i64 N1, .string nm1, .slice B1 l1 q1] 40)).alloc (.cells #[.int .i64 2, .string ⟨#[]⟩, .slice (some ⟨w1.heap.size, 0, none⟩) 1 1, .int .i64 0, .int .i64 0, .slice none 0 0, .slice none 0 0] 95)).heap.size = w1.heap.size + 2 := by simp
  have xl2 := X1.out.lt
  clear f2 K1 P1 X1
  generalize (w1.alloc (.cells #[.int .i64 op1, .int .i64 N1, .string nm1, .slice B1 l1 q1] 40)).alloc (.cells #[.int .i64 2, .string ⟨#[]⟩, .slice (some ⟨w1.heap.size, 0, none⟩) 1 1, .int .i64 0, .int .i64 0, .slice none 0 0, .slice none 0 0] 95) = W2 at *
  go_wp2_with fail
  refine (MT.out i1 er1 W2 P2.out).mono ?_
  rintro e w3 ⟨v3, rfl, k3, rfl, i3, er3, p3, ps3⟩
  have z3 := k3.size
  have X3 := Lib.hid (X2.out.kept k3 (by omega))
  have Y3 := Lib.hid (Y2.out.kept k3 (by omega))
  have K3 := Lib.hid (K2.out.then_ k3 (fun _ _ e => e))
  have P3 := Lib.hid p3
  have PS3 := Lib.hid (PS1.out.then_ ps3)
  have J3 := Lib.hid k3
  clear p3 k3 ps3 K2 P2 X2 Y2 PS1
  go_wp2_with fail
  refine (INN.out i3 er3 w3 P3.out).mono ?_
  rintro e w4 ⟨v4, rfl, k4, ⟨A4, l4, q4, rfl⟩, i4, er4, p4, ps4⟩
  have z4 := k4.size
  have X4 := Lib.hid (X3.out.kept k4 (by omega))
  have Y4 := Lib.hid (Y3.out.kept k4 (by omega))
  have K4 := Lib.hid (K3.out.then_ k4 (fun _ _ e => e))
  have P4 := Lib.hid p4
  have PS4 := Lib.hid (PS3.out.then_ ps4)
  have J4 := Lib.hid k4
  clear p4 k4 ps4 K3 P3 X3 Y3 PS3
  have fz : w4.frozen? ⟨w1.heap.size + 1, 5, none⟩ = false := Y4.out.frozen 5
  have ez : w4.cell? ⟨w1.heap.size + 1, 5, none⟩ = some (.slice none 0 0) := Y4.out.cell 5
  go_wp2_with fail
  have k5 := (Kept.refl (fun z => z = w1.heap.size + 1) w4).setCell (p := ⟨w1.heap.size + 1, 5, none⟩) (fun _ => rfl) (.slice A4 l4 q4)
  have Y5 : Hid (Blk (w4.setCell ⟨w1.heap.size + 1, 5, none⟩ (.slice A4 l4 q4)) (w1.heap.size + 1) 95 #[.int .i64 2, .string ⟨#[]⟩, .slice (some ⟨w1.heap.size, 0, none⟩) 1 1, .int .i64 0, .int .i64 0, .slice A4 l4 q4, .slice none 0 0]) := Y4.out.set_ 5 (.slice A4 l4 q4)
  have X5 := Lib.hid (X4.out.kept k5 (by omega))
  have K5 := Lib.hid (K4.out.then_ k5 (fun z hz e => by omega))
  have P5 := Lib.hid (HH.out.put P4.out.at_ (P4.out.blk.kept k5 (by omega)) K5.out)
  have J5 := Lib.hid k5
  have z5 := k5.size
  clear k5 Y4 X4 K4 P4
  generalize w4.setCell ⟨w1.heap.size + 1, 5, none⟩ (.slice A4 l4 q4) = W5 at *
  clear fz ez
  obtain ⟨t', ht'⟩ := ParS.at_some P5.out.at_
  have SK := Lib.hid (skip_any g c A m ts i4 dp er4 [101, 108, 115, 101] W5 P5.out t' ht')
  have PT := Lib.hid (stP_skip (er := er4) ht' [101, 108, 115, 101] (elP d) (innerP d) (fun r => .ok [] r) (fun r => rfl))
  obtain ⟨bb, hbb⟩ : ∃ b, hasB t' er4 [101, 108, 115, 101] = b := ⟨_, rfl⟩
  rw [hbb] at SK PT
  clear hbb ht'
  cases bb
  · have PTT := Lib.hid (PT.out.2 rfl)
    refine SK.out.mono ?_
    rintro e w6 ⟨rfl, p6, k6⟩
    have P6 : Hid (Par w6 g A c m ts (i4) dp er4) := p6
    have z6 := k6.size
    have X6 := Lib.hid (X5.out.kept k6 (by omega))
    have Y6 := Lib.hid (Y5.out.kept k6 (by omega))
    have K6 := Lib.hid (K5.out.then_ k6 (fun _ _ e => e))
    have J6 := Lib.hid k6
    clear p6 k6 SK K5 P5 X5 Y5
    have PSsz : PsAt ts i4 er4 (stP (elP d) ts i4 er4) (fun l => l = []) := by rw [PTT.out]; exact PsAt.st rfl
    go_wp2_with fail
    have PSz := Lib.hid (PS4.out.then_ PSsz)
    clear PSsz PS4
    refine (MD.out i4 er4 w6 P6.out).mono ?_
    rintro e w7 ⟨v7, rfl, k7, rfl, i7, er7, p7, ps7⟩
    have z7 := k7.size
    have X7 := Lib.hid (X6.out.kept k7 (by omega))
    have Y7 := Lib.hid (Y6.out.kept k7 (by omega))
    have K7 := Lib.hid (K6.out.then_ k7 (fun _ _ e => e))
    have P7 := Lib.hid p7
    have PS7 := Lib.hid (PSz.out.then_ ps7)
    have J7 := Lib.hid k7
    clear p7 k7 ps7 K6 P6 X6 Y6 PSz
    go_upto_region 7 with fail
    have qc0 : w7.cell? ⟨w1.heap.size + 1, 0, none⟩ = some (.int .i64 2) := Y7.out.cell 0
    have qc1 : w7.cell? ⟨w1.heap.size + 1, 1, none⟩ = some (.string ⟨#[]⟩) := Y7.out.cell 1
    have qc2 : w7.cell? ⟨w1.heap.size + 1, 2, none⟩ = some (.slice (some ⟨w1.heap.size, 0, none⟩) 1 1) := Y7.out.cell 2
    have qc3 : w7.cell? ⟨w1.heap.size + 1, 3, none⟩ = some (.int .i64 0) := Y7.out.cell 3
    have qc4 : w7.cell? ⟨w1.heap.size + 1, 4, none⟩ = some (.int .i64 0) := Y7.out.cell 4
    have qc5 : w7.cell? ⟨w1.heap.size + 1, 5, none⟩ = some (.slice A4 l4 q4) := Y7.out.cell 5
    have qc6 : w7.cell? ⟨w1.heap.size + 1, 6, none⟩ = some (.slice none 0 0) := Y7.out.cell 6
    have hx := X7.out
    have sc0 : w7.cell? ⟨w.heap.size, 0, none⟩ = some (.int .i64 0) := hx.cell 0
    have sc1 : w7.cell? ⟨w.heap.size, 1, none⟩ = some (.string ⟨#[]⟩) := hx.cell 1
    have sc2 : w7.cell? ⟨w.heap.size, 2, none⟩ = some (.slice none 0 0) := hx.cell 2
    have sc3 : w7.cell? ⟨w.heap.size, 3, none⟩ = some (.int .i64 0) := hx.cell 3
    have sc4 : w7.cell? ⟨w.heap.size, 4, none⟩ = some (.int .i64 0) := hx.cell 4
    have sc5 : w7.cell? ⟨w.heap.size, 5, none⟩ = some (.slice none 0 0) := hx.cell 5
    have sc6 : w7.cell? ⟨w.heap.size, 6, none⟩ = some (.slice none 0 0) := hx.cell 6
    have tc0 := hx.frozen 0
    have tc1 := hx.frozen 1
    have tc2 := hx.frozen 2
    have tc3 := hx.frozen 3
    have tc4 := hx.frozen 4
    have tc5 := hx.frozen 5
    have tc6 := hx.frozen 6
    go_wp2_with fail
    have X9 := hx.put7 (.int .i64 2) (.string ⟨#[]⟩) (.slice (some ⟨w1.heap.size, 0, none⟩) 1 1) (.int .i64 0) (.int .i64 0) (.slice A4 l4 q4) (.slice none 0 0)
    have k9 := Kept.put7 w7 w.heap.size (.int .i64 2) (.string ⟨#[]⟩) (.slice (some ⟨w1.heap.size, 0, none⟩) 1 1) (.int .i64 0) (.int .i64 0) (.slice A4 l4 q4) (.slice none 0 0)
    generalize ((((((w7.setCell ⟨w.heap.size, 0, none⟩ (.int .i64 2)).setCell ⟨w.heap.size, 1, none⟩ (.string ⟨#[]⟩)).setCell ⟨w.heap.size, 2, none⟩ (.slice (some ⟨w1.heap.size, 0, none⟩) 1 1)).setCell ⟨w.heap.size, 3, none⟩ (.int .i64 0)).setCell ⟨w.heap.size, 4, none⟩ (.int .i64 0)).setCell ⟨w.heap.size, 5, none⟩ (.slice A4 l4 q4)).setCell ⟨w.heap.size, 6, none⟩ (.slice none 0 0) = W9 at *
    clear sc0 sc1 sc2 sc3 sc4 sc5 sc6 qc0 qc1 qc2 qc3 qc4 qc5 qc6
    have sc0 : W9.cell? ⟨w.heap.size, 0, none⟩ = some (.int .i64 2) := X9.cell 0
    have sc1 : W9.cell? ⟨w.heap.size, 1, none⟩ = some (.string ⟨#[]⟩) := X9.cell 1
    have sc2 : W9.cell? ⟨w.heap.size, 2, none⟩ = some (.slice (some ⟨w1.heap.size, 0, none⟩) 1 1) := X9.cell 2
    have sc3 : W9.cell? ⟨w.heap.size, 3, none⟩ = some (.int .i64 0) := X9.cell 3
    have sc4 : W9.cell? ⟨w.heap.size, 4, none⟩ = some (.int .i64 0) := X9.cell 4
    have sc5 : W9.cell? ⟨w.heap.size, 5, none⟩ = some (.slice A4 l4 q4) := X9.cell 5
    have sc6 : W9.cell? ⟨w.heap.size, 6, none⟩ = some (.slice none 0 0) := X9.cell 6
    have KK : Kept (fun z => z = g) w W9 := K7.out.then_ k9 (fun z hz e => by omega)
    have TA : Hid (Kept (fun z => z < W0.heap.size ∨ w1.heap.size ≤ z) w1 W9) := ((J2.out.mono (T := (fun z => z < W0.heap.size ∨ w1.heap.size ≤ z)) (fun z hz e => by omega)).then_ ((J3.out.mono (T := (fun z => z < W0.heap.size ∨ w1.heap.size ≤ z)) (fun z hz e => by omega)).then_ ((J4.out.mono (T := (fun z => z < W0.heap.size ∨ w1.heap.size ≤ z)) (fun z hz e => by omega)).then_ ((J5.out.mono (T := (fun z => z < W0.heap.size ∨ w1.heap.size ≤ z)) (fun z hz e => by omega)).then_ ((J6.out.mono (T := (fun z => z < W0.heap.size ∨ w1.heap.size ≤ z)) (fun z hz e => by omega)).then_ ((J7.out.mono (T := (fun z => z < W0.heap.size ∨ w1.heap.size ≤ z)) (fun z hz e => by omega)).then_ (k9.mono (T := (fun z => z < W0.heap.size ∨ w1.heap.size ≤ z)) (fun z hz e => by omega)) (fun _ _ e => e.imp (fun e => e) (fun e => e))) (fun _ _ e => e.imp (fun e => e) (fun e => e))) (fun _ _ e => e.imp (fun e => e) (fun e => e))) (fun _ _ e => e.imp (fun e => e) (fun e => e))) (fun _ _ e => e.imp (fun e => e) (fun e => e))) (fun _ _ e => e.imp (fun e => e) (fun e => e)))
    have TB : Hid (Kept (fun z => z < w1.heap.size ∨ w1.heap.size + 1 ≤ z) W2 W9) := ((J3.out.mono (T := (fun z => z < w1.heap.size ∨ w1.heap.size + 1 ≤ z)) (fun z hz e => by omega)).then_ ((J4.out.mono (T := (fun z => z < w1.heap.size ∨ w1.heap.size + 1 ≤ z)) (fun z hz e => by omega)).then_ ((J5.out.mono (T := (fun z => z < w1.heap.size ∨ w1.heap.size + 1 ≤ z)) (fun z hz e => by omega)).then_ ((J6.out.mono (T := (fun z => z < w1.heap.size ∨ w1.heap.size + 1 ≤ z)) (fun z hz e => by omega)).then_ ((J7.out.mono (T := (fun z => z < w1.heap.size ∨ w1.heap.size + 1 ≤ z)) (fun z hz e => by omega)).then_ (k9.mono (T := (fun z => z < w1.heap.size ∨ w1.heap.size + 1 ≤ z)) (fun z hz e => by omega)) (fun _ _ e => e.imp (fun e => e) (fun e => e))) (fun _ _ e => e.imp (fun e => e) (fun e => e))) (fun _ _ e => e.imp (fun e => e) (fun e => e))) (fun _ _ e => e.imp (fun e => e) (fun e => e))) (fun _ _ e => e.imp (fun e => e) (fun e => e)))
    have TC : Hid (Kept (fun z => z < w3.heap.size ∨ w4.heap.size ≤ z) w4 W9) := ((J5.out.mono (T := (fun z => z < w3.heap.size ∨ w4.heap.size ≤ z)) (fun z hz e => by omega)).then_ ((J6.out.mono (T := (fun z => z < w3.heap.size ∨ w4.heap.size ≤ z)) (fun z hz e => by omega)).then_ ((J7.out.mono (T := (fun z => z < w3.heap.size ∨ w4.heap.size ≤ z)) (fun z hz e => by omega)).then_ (k9.mono (T := (fun z => z < w3.heap.size ∨ w4.heap.size ≤ z)) (fun z hz e => by omega)) (fun _ _ e => e.imp (fun e => e) (fun e => e))) (fun _ _ e => e.imp (fun e => e) (fun e => e))) (fun _ _ e => e.imp (fun e => e) (fun e => e)))
    refine bodyPost_ret (v := .agg #[.int .i64 2, .string ⟨#[]⟩, .slice (some ⟨w1.heap.size, 0, none⟩) 1 1, .int .i64 0, .int .i64 0, .slice A4 l4 q4, .slice none 0 0]) (by simp [results, Tryz.results130, go_sem, sc0, sc1, sc2, sc3, sc4, sc5, sc6]) rfl ⟨_, rfl, KK, ⟨_, _, _, _, _, _, _, _, _, _, _, _, _, rfl⟩, i7, er7, HH.out.put P7.out.at_ (P7.out.blk.kept k9 (by omega)) KK, PS7.out.map _ ?_⟩
    rintro ⟨⟨⟨⟨x1, u1⟩, l⟩, el⟩, u2⟩ ⟨⟨⟨⟨h1, -⟩, h2⟩, h3⟩, -⟩
    have hE : ElsG (fun k => w.heap.size ≤ k) W9 4 1000000 (QE (fun k => w.heap.size ≤ k) W9) (some ⟨w1.heap.size, 0, none⟩) 1 [x1] := elsg_blk (cs := [.int .i64 op1, .int .i64 N1, .string nm1, .slice B1 l1 q1]) (B2.out.kept TB.out (fun e => by omega)) rfl (by omega) ((h1.kept QE_kept (by omega) TA.out (fun k _ hk e => by omega)).cells (cs := [.int .i64 op1, .int .i64 N1, .string nm1, .slice B1 l1 q1]))
    have h3 : el = [] := h3
    subst h3
    exact ⟨_, rfl, _, _, _, _, _, _, none, 0, 0, rfl, hE, (h2.kept (QS_kept d) (by omega) TC.out (fun k _ hk e => by omega)).els, ElsG.none_ _ _ _ _ _ _⟩
  · have PTT := Lib.hid (PT.out.1 rfl)
    refine SK.out.mono ?_
    rintro e w6 ⟨rfl, p6, k6⟩
    have P6 : Hid (Par w6 g A c m ts (i4 + 1) dp er4) := p6
    have z6 := k6.size
    have X6 := Lib.hid (X5.out.kept k6 (by omega))
    have Y6 := Lib.hid (Y5.out.kept k6 (by omega))
    have K6 := Lib.hid (K5.out.then_ k6 (fun _ _ e => e))
    have J6 := Lib.hid k6
    clear p6 k6 SK K5 P5 X5 Y5
    go_wp2_with fail
    refine (INN.out (i4 + 1) er4 w6 P6.out).mono ?_
    rintro e w7 ⟨v7, rfl, k7, ⟨A7, l7, q7, rfl⟩, i7, er7, p7, ps7⟩
    have z7 := k7.size
    have X7 := Lib.hid (X6.out.kept k7 (by omega))
    have Y7 := Lib.hid (Y6.out.kept k7 (by omega))
    have K7 := Lib.hid (K6.out.then_ k7 (fun _ _ e => e))
    have P7 := Lib.hid p7
    have J7 := Lib.hid k7
    have psk := Lib.hid ps7
    clear p7 k7 ps7 K6 P6 X6 Y6
    have PSsz : PsAt ts i7 er7 (stP (elP d) ts i4 er4) (fun l => IsRow 7 (QS d) w6.heap.size w7 l (.slice A7 l7 q7)) := by rw [PTT.out.2]; exact psk.out
    have fz : w7.frozen? ⟨w1.heap.size + 1, 6, none⟩ = false := Y7.out.frozen 6
    have ez : w7.cell? ⟨w1.heap.size + 1, 6, none⟩ = some (.slice none 0 0) := Y7.out.cell 6
    go_wp2_with fail
    have k8 := (Kept.refl (fun z => z = w1.heap.size + 1) w7).setCell (p := ⟨w1.heap.size + 1, 6, none⟩) (fun _ => rfl) (.slice A7 l7 q7)
    have Y8 : Hid (Blk (w7.setCell ⟨w1.heap.size + 1, 6, none⟩ (.slice A7 l7 q7)) (w1.heap.size + 1) 95 #[.int .i64 2, .string ⟨#[]⟩, .slice (some ⟨w1.heap.size, 0, none⟩) 1 1, .int .i64 0, .int .i64 0, .slice A4 l4 q4, .slice A7 l7 q7]) := Y7.out.set_ 6 (.slice A7 l7 q7)
    have X8 := Lib.hid (X7.out.kept k8 (by omega))
    have K8 := Lib.hid (K7.out.then_ k8 (fun z hz e => by omega))
    have P8 := Lib.hid (HH.out.put P7.out.at_ (P7.out.blk.kept k8 (by omega)) K8.out)
    have J8 := Lib.hid k8
    have z8 := k8.size
    clear k8 Y7 X7 K7 P7
    generalize w7.setCell ⟨w1.heap.size + 1, 6, none⟩ (.slice A7 l7 q7) = W8 at *
    clear fz ez
    have PSz := Lib.hid (PS4.out.then_ PSsz)
    clear PSsz PS4
    refine (MD.out i7 er7 W8 P8.out).mono ?_
    rintro e w9 ⟨v9, rfl, k9, rfl, i9, er9, p9, ps9⟩
    have z9 := k9.size
    have X9 := Lib.hid (X8.out.kept k9 (by omega))
    have Y9 := Lib.hid (Y8.out.kept k9 (by omega))
    have K9 := Lib.hid (K8.out.then_ k9 (fun _ _ e => e))
    have P9 := Lib.hid p9
    have PS9 := Lib.hid (PSz.out.then_ ps9)
    have J9 := Lib.hid k9
    clear p9 k9 ps9 K8 P8 X8 Y8 PSz
    go_upto_region 7 with fail
    have qc0 : w9.cell? ⟨w1.heap.size + 1, 0, none⟩ = some (.int .i64 2) := Y9.out.cell 0
    have qc1 : w9.cell? ⟨w1.heap.size + 1, 1, none⟩ = some (.string ⟨#[]⟩) := Y9.out.cell 1
    have qc2 : w9.cell? ⟨w1.heap.size + 1, 2, none⟩ = some (.slice (some ⟨w1.heap.size, 0, none⟩) 1 1) := Y9.out.cell 2
    have qc3 : w9.cell? ⟨w1.heap.size + 1, 3, none⟩ = some (.int .i64 0) := Y9.out.cell 3
    have qc4 : w9.cell? ⟨w1.heap.size + 1, 4, none⟩ = some (.int .i64 0) := Y9.out.cell 4
    have qc5 : w9.cell? ⟨w1.heap.size + 1, 5, none⟩ = some (.slice A4 l4 q4) := Y9.out.cell 5
    have qc6 : w9.cell? ⟨w1.heap.size + 1, 6, none⟩ = some (.slice A7 l7 q7) := Y9.out.cell 6
    have hx := X9.out
    have sc0 : w9.cell? ⟨w.heap.size, 0, none⟩ = some (.int .i64 0) := hx.cell 0
    have sc1 : w9.cell? ⟨w.heap.size, 1, none⟩ = some (.string ⟨#[]⟩) := hx.cell 1
    have sc2 : w9.cell? ⟨w.heap.size, 2, none⟩ = some (.slice none 0 0) := hx.cell 2
    have sc3 : w9.cell? ⟨w.heap.size, 3, none⟩ = some (.int .i64 0) := hx.cell 3
    have sc4 : w9.cell? ⟨w.heap.size, 4, none⟩ = some (.int .i64 0) := hx.cell 4
    have sc5 : w9.cell? ⟨w.heap.size, 5, none⟩ = some (.slice none 0 0) := hx.cell 5
    have sc6 : w9.cell? ⟨w.heap.size, 6, none⟩ = some (.slice none 0 0) := hx.cell 6
    have tc0 := hx.frozen 0
    have tc1 := hx.frozen 1
    have tc2 := hx.frozen 2
    have tc3 := hx.frozen 3
    have tc4 := hx.frozen 4
    have tc5 := hx.frozen 5
    have tc6 := hx.frozen 6
    go_wp2_with fail
    have X9 := hx.put7 (.int .i64 2) (.string ⟨#[]⟩) (.slice (some ⟨w1.heap.size, 0, none⟩) 1 1) (.int .i64 0) (.int .i64 0) (.slice A4 l4 q4) (.slice A7 l7 q7)
    have k9 := Kept.put7 w9 w.heap.size (.int .i64 2) (.string ⟨#[]⟩) (.slice (some ⟨w1.heap.size, 0, none⟩) 1 1) (.int .i64 0) (.int .i64 0) (.slice A4 l4 q4) (.slice A7 l7 q7)
    generalize ((((((w9.setCell ⟨w.heap.size, 0, none⟩ (.int .i64 2)).setCell ⟨w.heap.size, 1, none⟩ (.string ⟨#[]⟩)).setCell ⟨w.heap.size, 2, none⟩ (.slice (some ⟨w1.heap.size, 0, none⟩) 1 1)).setCell ⟨w.heap.size, 3, none⟩ (.int .i64 0)).setCell ⟨w.heap.size, 4, none⟩ (.int .i64 0)).setCell ⟨w.heap.size, 5, none⟩ (.slice A4 l4 q4)).setCell ⟨w.heap.size, 6, none⟩ (.slice A7 l7 q7) = W9 at *
    clear sc0 sc1 sc2 sc3 sc4 sc5 sc6 qc0 qc1 qc2 qc3 qc4 qc5 qc6
    have sc0 : W9.cell? ⟨w.heap.size, 0, none⟩ = some (.int .i64 2) := X9.cell 0
    have sc1 : W9.cell? ⟨w.heap.size, 1, none⟩ = some (.string ⟨#[]⟩) := X9.cell 1
    have sc2 : W9.cell? ⟨w.heap.size, 2, none⟩ = some (.slice (some ⟨w1.heap.size, 0, none⟩) 1 1) := X9.cell 2
    have sc3 : W9.cell? ⟨w.heap.size, 3, none⟩ = some (.int .i64 0) := X9.cell 3
    have sc4 : W9.cell? ⟨w.heap.size, 4, none⟩ = some (.int .i64 0) := X9.cell 4
    have sc5 : W9.cell? ⟨w.heap.size, 5, none⟩ = some (.slice A4 l4 q4) := X9.cell 5
    have sc6 : W9.cell? ⟨w.heap.size, 6, none⟩ = some (.slice A7 l7 q7) := X9.cell 6
    have KK : Kept (fun z => z = g) w W9 := K9.out.then_ k9 (fun z hz e => by omega)
    have TA : Hid (Kept (fun z => z < W0.heap.size ∨ w1.heap.size ≤ z) w1 W9) := ((J2.out.mono (T := (fun z => z < W0.heap.size ∨ w1.heap.size ≤ z)) (fun z hz e => by omega)).then_ ((J3.out.mono (T := (fun z => z < W0.heap.size ∨ w1.heap.size ≤ z)) (fun z hz e => by omega)).then_ ((J4.out.mono (T := (fun z => z < W0.heap.size ∨ w1.heap.size ≤ z)) (fun z hz e => by omega)).then_ ((J5.out.mono (T := (fun z => z < W0.heap.size ∨ w1.heap.size ≤ z)) (fun z hz e => by omega)).then_ ((J6.out.mono (T := (fun z => z < W0.heap.size ∨ w1.heap.size ≤ z)) (fun z hz e => by omega)).then_ ((J7.out.mono (T := (fun z => z < W0.heap.size ∨ w1.heap.size ≤ z)) (fun z hz e => by omega)).then_ ((J8.out.mono (T := (fun z => z < W0.heap.size ∨ w1.heap.size ≤ z)) (fun z hz e => by omega)).then_ ((J9.out.mono (T := (fun z => z < W0.heap.size ∨ w1.heap.size ≤ z)) (fun z hz e => by omega)).then_ (k9.mono (T := (fun z => z < W0.heap.size ∨ w1.heap.size ≤ z)) (fun z hz e => by omega)) (fun _ _ e => e.imp (fun e => e) (fun e => e))) (fun _ _ e => e.imp (fun e => e) (fun e => e))) (fun _ _ e => e.imp (fun e => e) (fun e => e))) (fun _ _ e => e.imp (fun e => e) (fun e => e))) (fun _ _ e => e.imp (fun e => e) (fun e => e))) (fun _ _ e => e.imp (fun e => e) (fun e => e))) (fun _ _ e => e.imp (fun e => e) (fun e => e))) (fun _ _ e => e.imp (fun e => e) (fun e => e)))
    have TB : Hid (Kept (fun z => z < w1.heap.size ∨ w1.heap.size + 1 ≤ z) W2 W9) := ((J3.out.mono (T := (fun z => z < w1.heap.size ∨ w1.heap.size + 1 ≤ z)) (fun z hz e => by omega)).then_ ((J4.out.mono (T := (fun z => z < w1.heap.size ∨ w1.heap.size + 1 ≤ z)) (fun z hz e => by omega)).then_ ((J5.out.mono (T := (fun z => z < w1.heap.size ∨ w1.heap.size + 1 ≤ z)) (fun z hz e => by omega)).then_ ((J6.out.mono (T := (fun z => z < w1.heap.size ∨ w1.heap.size + 1 ≤ z)) (fun z hz e => by omega)).then_ ((J7.out.mono (T := (fun z => z < w1.heap.size ∨ w1.heap.size + 1 ≤ z)) (fun z hz e => by omega)).then_ ((J8.out.mono (T := (fun z => z < w1.heap.size ∨ w1.heap.size + 1 ≤ z)) (fun z hz e => by omega)).then_ ((J9.out.mono (T := (fun z => z < w1.heap.size ∨ w1.heap.size + 1 ≤ z)) (fun z hz e => by omega)).then_ (k9.mono (T := (fun z => z < w1.heap.size ∨ w1.heap.size + 1 ≤ z)) (fun z hz e => by omega)) (fun _ _ e => e.imp (fun e => e) (fun e => e))) (fun _ _ e => e.imp (fun e => e) (fun e => e))) (fun _ _ e => e.imp (fun e => e) (fun e => e))) (fun _ _ e => e.imp (fun e => e) (fun e => e))) (fun _ _ e => e.imp (fun e => e) (fun e => e))) (fun _ _ e => e.imp (fun e => e) (fun e => e))) (fun _ _ e => e.imp (fun e => e) (fun e => e)))
    have TC : Hid (Kept (fun z => z < w3.heap.size ∨ w4.heap.size ≤ z) w4 W9) := ((J5.out.mono (T := (fun z => z < w3.heap.size ∨ w4.heap.size ≤ z)) (fun z hz e => by omega)).then_ ((J6.out.mono (T := (fun z => z < w3.heap.size ∨ w4.heap.size ≤ z)) (fun z hz e => by omega)).then_ ((J7.out.mono (T := (fun z => z < w3.heap.size ∨ w4.heap.size ≤ z)) (fun z hz e => by omega)).then_ ((J8.out.mono (T := (fun z => z < w3.heap.size ∨ w4.heap.size ≤ z)) (fun z hz e => by omega)).then_ ((J9.out.mono (T := (fun z => z < w3.heap.size ∨ w4.heap.size ≤ z)) (fun z hz e => by omega)).then_ (k9.mono (T := (fun z => z < w3.heap.size ∨ w4.heap.size ≤ z)) (fun z hz e => by omega)) (fun _ _ e => e.imp (fun e => e) (fun e => e))) (fun _ _ e => e.imp (fun e => e) (fun e => e))) (fun _ _ e => e.imp (fun e => e) (fun e => e))) (fun _ _ e => e.imp (fun e => e) (fun e => e))) (fun _ _ e => e.imp (fun e => e) (fun e => e)))
    have TD : Hid (Kept (fun z => z < w6.heap.size ∨ w7.heap.size ≤ z) w7 W9) := ((J8.out.mono (T := (fun z => z < w6.heap.size ∨ w7.heap.size ≤ z)) (fun z hz e => by omega)).then_ ((J9.out.mono (T := (fun z => z < w6.heap.size ∨ w7.heap.size ≤ z)) (fun z hz e => by omega)).then_ (k9.mono (T := (fun z => z < w6.heap.size ∨ w7.heap.size ≤ z)) (fun z hz e => by omega)) (fun _ _ e => e.imp (fun e => e) (fun e => e))) (fun _ _ e => e.imp (fun e => e) (fun e => e)))
    refine bodyPost_ret (v := .agg #[.int .i64 2, .string ⟨#[]⟩, .slice (some ⟨w1.heap.size, 0, none⟩) 1 1, .int .i64 0, .int .i64 0, .slice A4 l4 q4, .slice A7 l7 q7]) (by simp [results, Tryz.results130, go_sem, sc0, sc1, sc2, sc3, sc4, sc5, sc6]) rfl ⟨_, rfl, KK, ⟨_, _, _, _, _, _, _, _, _, _, _, _, _, rfl⟩, i9, er9, HH.out.put P9.out.at_ (P9.out.blk.kept k9 (by omega)) KK, PS9.out.map _ ?_⟩
    rintro ⟨⟨⟨⟨x1, u1⟩, l⟩, el⟩, u2⟩ ⟨⟨⟨⟨h1, -⟩, h2⟩, h3⟩, -⟩
    have hE : ElsG (fun k => w.heap.size ≤ k) W9 4 1000000 (QE (fun k => w.heap.size ≤ k) W9) (some ⟨w1.heap.size, 0, none⟩) 1 [x1] := elsg_blk (cs := [.int .i64 op1, .int .i64 N1, .string nm1, .slice B1 l1 q1]) (B2.out.kept TB.out (fun e => by omega)) rfl (by omega) ((h1.kept QE_kept (by omega) TA.out (fun k _ hk e => by omega)).cells (cs := [.int .i64 op1, .int .i64 N1, .string nm1, .slice B1 l1 q1]))
    exact ⟨_, rfl, _, _, _, _, _, _, _, _, _, rfl, hE, (h2.kept (QS_kept d) (by omega) TC.out (fun k _ hk e => by omega)).els, (h3.kept (QS_kept d) (by omega) TD.out (fun k _ hk e => by omega)).els⟩
set_option maxHeartbeats 4000000 in
set_option maxRecDepth 100000 in
theorem stmt_if (g c : Nat) (A : Option Addr) (m : Nat → Nat) (ts : List Tk) (d : Nat) (H : StmtOk g c A m ts d) (dp : Int) (hd : dp + ((d + 1 : Nat) : Int) = 16) (h0 : 0 ≤ dp) (i : Nat) (w : World) (h : Par w g A c m ts i dp 0) (t : Tk) (ht : ts[i]? = some t) (hk : t.kind = 3) (hx : t.text = [105, 102]) :
    Calls Tryz.prog 92 #[.pointer (some ⟨g, 0, none⟩)] w (StepTo w g c A m ts dp (stmtD (d + 1) (ts.drop i)) (IsEl (QS (d + 1)) w.heap.size) ShSt) := by
  have f0 : Below w.heap.size w (w.alloc (.cells #[.int .i64 0, .string ⟨#[]⟩, .slice none 0 0, .int .i64 0, .int .i64 0, .slice none 0 0, .slice none 0 0] 95)) := (Below.refl _ w).al _
  have x0 := Blk.new w 95 #[.int .i64 0, .string ⟨#[]⟩, .slice none 0 0, .int .i64 0, .int .i64 0, .slice none 0 0, .slice none 0 0]
  have hgl := h.blk.lt
  have HH := Lib.hid h
  have PB0 := Lib.hid (h.below f0)
  have XB0 := Lib.hid x0
  have z0 : (w.alloc (.cells #[.int .i64 0, .string ⟨#[]⟩, .slice none 0 0, .int .i64 0, .int .i64 0, .slice none 0 0, .slice none 0 0] 95)).heap.size = w.heap.size + 1 := by simp
  have KB0 := Lib.hid (Kept.of_below (S := fun z => z = g) f0)
  have hdd : dp < 16 := by omega
  have N1 : Hid (∀ w', Par w' g A c m ts i dp 0 → Calls Tryz.prog 53 #[.pointer (some ⟨g, 0, none⟩), .int .i64 1] w' (Still w' (.bool false))) := fun w' h' => by
    have := next_any g c A m ts i dp 0 1 w' h' t ht
    rwa [show nextB t 0 1 = false from by simp [nextB, hk]] at this
  have TK : Hid (∀ w', Par w' g A c m ts i dp 0 → Calls Tryz.prog 87 #[.pointer (some ⟨g, 0, none⟩), .int .i64 3] w' (ParTo w' g c A m ts dp (tkVal t) (i + 1) 0)) := fun w' h' => by
    have := take_any g c A m ts i dp 0 3 w' h' t ht (by decide)
    rwa [show nextB t 0 3 = true from by simp [nextB, hk]] at this
  have CO := Lib.hid (fun i er w h => condition_any g c A m ts d H dp (by omega) h0 i er w h)
  have GO : stmtD (d + 1) (ts.drop i) = stP (condP d) ts (i + 1) 0 := by
    rw [drop_tok ht, stmt_word d t _ hk, hx]
    rw [if_pos rfl]
    unfold stP
    rw [if_pos rfl]
  rw [GO]
  have e0 : ((str t.text).toList == [105, 102]) = true := (str_eqL _ _).trans (by rw [hx]; decide)
  clear h f0 x0 GO ht hk hx H
  go_enter Tryz.func92, Tryz.ntmps92
  go_upto_region 1 with fail
  generalize w.alloc (.cells #[.int .i64 0, .string ⟨#[]⟩, .slice none 0 0, .int .i64 0, .int .i64 0, .slice none 0 0, .slice none 0 0] 95) = WB at *
  have bp := PB0.out.blk
  unfold parCells at bp
  have c2 : WB.cell? ⟨g, 2, none⟩ = some (.int .i64 dp) := bp.cell 2
  clear bp
  go_wp2_with fail
  refine (N1.out _ PB0.out).mono ?_
  rintro e wq ⟨rfl, q, rfl⟩
  have P0' := Lib.hid (PB0.out.drewN q)
  have X0' := Lib.hid (XB0.out.drewN q)
  have K0' := Lib.hid (KB0.out.drewN q)
  have zq : (WB.drewN q).heap.size = WB.heap.size := rfl
  clear PB0 XB0 KB0 c2
  generalize WB.drewN q = WC at *
  go_wp2_with fail
  refine (TK.out _ P0'.out).mono ?_
  rintro e W0 ⟨rfl, pt, kt⟩
  have P0 := Lib.hid pt
  have X0 := Lib.hid (X0'.out.kept kt (by omega))
  have K0 := Lib.hid (K0'.out.then_ kt (fun _ _ e => e))
  have zt := kt.size
  clear pt kt P0' X0' K0' N1 TK
  go_wp2_with fail
  rw [run_fieldTk1]
  go_wp2_with fail
  refine (CO.out (i + 1) 0 W0 P0.out).mono ?_
  rintro e w1 ⟨v1, rfl, k1, ⟨kd1, nm1, Aa1, la1, ca1, lo1, hi1, Ab1, lb1, cb1, Ac1, lc1, cc1, rfl⟩, i1, er1, p1, ps1⟩
  have z1 := k1.size
  have X1 := Lib.hid (X0.out.kept k1 (by omega))
  have K1 := Lib.hid (K0.out.then_ k1 (fun _ _ e => e))
  have P1 := Lib.hid p1
  have PS1 := Lib.hid ps1
  have J1 := Lib.hid k1
  clear p1 k1 ps1 K0 P0 X0
  have hx := X1.out
  have sc0 : w1.cell? ⟨w.heap.size, 0, none⟩ = some (.int .i64 0) := hx.cell 0
  have sc1 : w1.cell? ⟨w.heap.size, 1, none⟩ = some (.string ⟨#[]⟩) := hx.cell 1
  have sc2 : w1.cell? ⟨w.heap.size, 2, none⟩ = some (.slice none 0 0) := hx.cell 2
  have sc3 : w1.cell? ⟨w.heap.size, 3, none⟩ = some (.int .i64 0) := hx.cell 3
  have sc4 : w1.cell? ⟨w.heap.size, 4, none⟩ = some (.int .i64 0) := hx.cell 4
  have sc5 : w1.cell? ⟨w.heap.size, 5, none⟩ = some (.slice none 0 0) := hx.cell 5
  have sc6 : w1.cell? ⟨w.heap.size, 6, none⟩ = some (.slice none 0 0) := hx.cell 6
  have tc0 := hx.frozen 0
  have tc1 := hx.frozen 1
  have tc2 := hx.frozen 2
  have tc3 := hx.frozen 3
  have tc4 := hx.frozen 4
  have tc5 := hx.frozen 5
  have tc6 := hx.frozen 6
  go_wp2_with fail
  have X9 := hx.put7 (.int .i64 kd1) (.string nm1) (.slice Aa1 la1 ca1) (.int .i64 lo1) (.int .i64 hi1) (.slice Ab1 lb1 cb1) (.slice Ac1 lc1 cc1)
  have k9 := Kept.put7 w1 w.heap.size (.int .i64 kd1) (.string nm1) (.slice Aa1 la1 ca1) (.int .i64 lo1) (.int .i64 hi1) (.slice Ab1 lb1 cb1) (.slice Ac1 lc1 cc1)
  generalize ((((((w1.setCell ⟨w.heap.size, 0, none⟩ (.int .i64 kd1)).setCell ⟨w.heap.size, 1, none⟩ (.string nm1)).setCell ⟨w.heap.size, 2, none⟩ (.slice Aa1 la1 ca1)).setCell ⟨w.heap.size, 3, none⟩ (.int .i64 lo1)).setCell ⟨w.heap.size, 4, none⟩ (.int .i64 hi1)).setCell ⟨w.heap.size, 5, none⟩ (.slice Ab1 lb1 cb1)).setCell ⟨w.heap.size, 6, none⟩ (.slice Ac1 lc1 cc1) = W9 at *
  clear sc0 sc1 sc2 sc3 sc4 sc5 sc6
  have sc0 : W9.cell? ⟨w.heap.size, 0, none⟩ = some (.int .i64 kd1) := X9.cell 0
  have sc1 : W9.cell? ⟨w.heap.size, 1, none⟩ = some (.string nm1) := X9.cell 1
  have sc2 : W9.cell? ⟨w.heap.size, 2, none⟩ = some (.slice Aa1 la1 ca1) := X9.cell 2
  have sc3 : W9.cell? ⟨w.heap.size, 3, none⟩ = some (.int .i64 lo1) := X9.cell 3
  have sc4 : W9.cell? ⟨w.heap.size, 4, none⟩ = some (.int .i64 hi1) := X9.cell 4
  have sc5 : W9.cell? ⟨w.heap.size, 5, none⟩ = some (.slice Ab1 lb1 cb1) := X9.cell 5
  have sc6 : W9.cell? ⟨w.heap.size, 6, none⟩ = some (.slice Ac1 lc1 cc1) := X9.cell 6
  have KK : Kept (fun z => z = g) w W9 := K1.out.then_ k9 (fun z hz e => by omega)
  have TA : Hid (Kept (fun z => z < W0.heap.size ∨ w1.heap.size ≤ z) w1 W9) := (k9.mono (T := (fun z => z < W0.heap.size ∨ w1.heap.size ≤ z)) (fun z hz e => by omega))
  refine bodyPost_ret (v := .agg #[.int .i64 kd1, .string nm1, .slice Aa1 la1 ca1, .int .i64 lo1, .int .i64 hi1, .slice Ab1 lb1 cb1, .slice Ac1 lc1 cc1]) (by simp [results, Tryz.results92, go_sem, sc0, sc1, sc2, sc3, sc4, sc5, sc6]) rfl ⟨_, rfl, KK, ⟨_, _, _, _, _, _, _, _, _, _, _, _, _, rfl⟩, i1, er1, HH.out.put P1.out.at_ (P1.out.blk.kept k9 (by omega)) KK, PS1.out.mono (fun a ha => ha.kept (QS_kept (d + 1)) (by omega) TA.out (fun k _ hk e => by omega))⟩
set_option maxHeartbeats 4000000 in
set_option maxRecDepth 100000 in
theorem stmt_for (g c : Nat) (A : Option Addr) (m : Nat → Nat) (ts : List Tk) (d : Nat) (H : StmtOk g c A m ts d) (dp : Int) (hd : dp + ((d + 1 : Nat) : Int) = 16) (h0 : 0 ≤ dp) (i : Nat) (w : World) (h : Par w g A c m ts i dp 0) (t : Tk) (ht : ts[i]? = some t) (hk : t.kind = 3) (hx : t.text = [102, 111, 114]) :
    Calls Tryz.prog 92 #[.pointer (some ⟨g, 0, none⟩)] w (StepTo w g c A m ts dp (stmtD (d + 1) (ts.drop i)) (IsEl (QS (d + 1)) w.heap.size) ShSt) := by
  have f0 : Below w.heap.size w (w.alloc (.cells #[.int .i64 0, .string ⟨#[]⟩, .slice none 0 0, .int .i64 0, .int .i64 0, .slice none 0 0, .slice none 0 0] 95)) := (Below.refl _ w).al _
  have x0 := Blk.new w 95 #[.int .i64 0, .string ⟨#[]⟩, .slice none 0 0, .int .i64 0, .int .i64 0, .slice none 0 0, .slice none 0 0]
  have hgl := h.blk.lt
  have HH := Lib.hid h
  have PB0 := Lib.hid (h.below f0)
  have XB0 := Lib.hid x0
  have z0 : (w.alloc (.cells #[.int .i64 0, .string ⟨#[]⟩, .slice none 0 0, .int .i64 0, .int .i64 0, .slice none 0 0, .slice none 0 0] 95)).heap.size = w.heap.size + 1 := by simp
  have KB0 := Lib.hid (Kept.of_below (S := fun z => z = g) f0)
  have hdd : dp < 16 := by omega
  have N1 : Hid (∀ w', Par w' g A c m ts i dp 0 → Calls Tryz.prog 53 #[.pointer (some ⟨g, 0, none⟩), .int .i64 1] w' (Still w' (.bool false))) := fun w' h' => by
    have := next_any g c A m ts i dp 0 1 w' h' t ht
    rwa [show nextB t 0 1 = false from by simp [nextB, hk]] at this
  have TK : Hid (∀ w', Par w' g A c m ts i dp 0 → Calls Tryz.prog 87 #[.pointer (some ⟨g, 0, none⟩), .int .i64 3] w' (ParTo w' g c A m ts dp (tkVal t) (i + 1) 0)) := fun w' h' => by
    have := take_any g c A m ts i dp 0 3 w' h' t ht (by decide)
    rwa [show nextB t 0 3 = true from by simp [nextB, hk]] at this
  have NM := Lib.hid (fun i er w h => pname_any g c A m ts i dp er w h)
  have SG := Lib.hid (fun i er w h => signed_any g c A m ts i dp er w h)
  have MT := Lib.hid (fun i er w h => must_step g c A m ts i dp er [100, 111] w h)
  have MD := Lib.hid (fun i er w h => must_step g c A m ts i dp er [101, 110, 100] w h)
  have INN := Lib.hid (fun i er w h => pinner_any g c A m ts d H dp (by omega) h0 i er w h)
  have GO : stmtD (d + 1) (ts.drop i) = stP (forP d) ts (i + 1) 0 := by
    rw [drop_tok ht, stmt_word d t _ hk, hx]
    rw [if_neg (by decide)]
    rw [if_pos rfl]
    unfold stP
    rw [if_pos rfl]
  rw [GO, for_st]
  have e0 : ((str t.text).toList == [105, 102]) = false := (str_eqL _ _).trans (by rw [hx]; decide)
  have e1 : ((str t.text).toList == [102, 111, 114]) = true := (str_eqL _ _).trans (by rw [hx]; decide)
  clear h f0 x0 GO ht hk hx H
  go_enter Tryz.func92, Tryz.ntmps92
  go_upto_region 1 with fail
  generalize w.alloc (.cells #[.int .i64 0, .string ⟨#[]⟩, .slice none 0 0, .int .i64 0, .int .i64 0, .slice none 0 0, .slice none 0 0] 95) = WB at *
  have bp := PB0.out.blk
  unfold parCells at bp
  have c2 : WB.cell? ⟨g, 2, none⟩ = some (.int .i64 dp) := bp.cell 2
  clear bp
  go_wp2_with fail
  refine (N1.out _ PB0.out).mono ?_
  rintro e wq ⟨rfl, q, rfl⟩
  have P0' := Lib.hid (PB0.out.drewN q)
  have X0' := Lib.hid (XB0.out.drewN q)
  have K0' := Lib.hid (KB0.out.drewN q)
  have zq : (WB.drewN q).heap.size = WB.heap.size := rfl
  clear PB0 XB0 KB0 c2
  generalize WB.drewN q = WC at *
  go_wp2_with fail
  refine (TK.out _ P0'.out).mono ?_
  rintro e W0 ⟨rfl, pt, kt⟩
  have P0 := Lib.hid pt
  have X0 := Lib.hid (X0'.out.kept kt (by omega))
  have K0 := Lib.hid (K0'.out.then_ kt (fun _ _ e => e))
  have zt := kt.size
  clear pt kt P0' X0' K0' N1 TK
  go_wp2_with fail
  rw [run_fieldTk1]
  go_wp2_with fail
  refine (NM.out (i + 1) 0 W0 P0.out).mono ?_
  rintro e w1 ⟨v1, rfl, k1, ⟨s1, rfl⟩, i1, er1, p1, ps1⟩
  have z1 := k1.size
  have X1 := Lib.hid (X0.out.kept k1 (by omega))
  have K1 := Lib.hid (K0.out.then_ k1 (fun _ _ e => e))
  have P1 := Lib.hid p1
  have PS1 := Lib.hid ps1
  have J1 := Lib.hid k1
  clear p1 k1 ps1 K0 P0 X0
  go_upto_region 11 with fail
  have f2 : Below w1.heap.size w1 (w1.alloc (.cells #[.int .i64 3, .string s1, .slice none 0 0, .int .i64 0, .int .i64 0, .slice none 0 0, .slice none 0 0] 95)) := (Below.refl _ _).al _
  have Y2 := Lib.hid (Blk.new w1 95 #[.int .i64 3, .string s1, .slice none 0 0, .int .i64 0, .int .i64 0, .slice none 0 0, .slice none 0 0])
  have P2 := Lib.hid (P1.out.below f2)
  have X2 := Lib.hid (X1.out.below f2 X1.out.lt)
  have K2 := Lib.hid (K1.out.then_ (Kept.of_below (S := fun z => z = g) f2) (fun _ _ e => e))
  have J2 := Lib.hid (Kept.of_below (S := fun z => z = g) f2)
  have z2 : (w1.alloc (.cells #[.int .i64 3, .string s1, .slice none 0 0, .int .i64 0, .int .i64 0, .slice none 0 0, .slice none 0 0] 95)).heap.size = w1.heap.size + 1 := by simp
  have xl2 := X1.out.lt
  clear f2 K1 P1 X1
  generalize w1.alloc (.cells #[.int .i64 3, .string s1, .slice none 0 0, .int .i64 0, .int .i64 0, .slice none 0 0, .slice none 0 0] 95) = W2 at *
  go_wp2_with fail
  refine (SG.out i1 er1 W2 P2.out).mono ?_
  rintro e w3 ⟨v3, rfl, k3, ⟨n3, rfl⟩, i3, er3, p3, ps3⟩
  have z3 := k3.size
  have X3 := Lib.hid (X2.out.kept k3 (by omega))
  have Y3 := Lib.hid (Y2.out.kept k3 (by omega))
  have K3 := Lib.hid (K2.out.then_ k3 (fun _ _ e => e))
  have P3 := Lib.hid p3
  have PS3 := Lib.hid (PS1.out.then_ ps3)
  have J3 := Lib.hid k3
  clear p3 k3 ps3 K2 P2 X2 Y2 PS1
  have fz : w3.frozen? ⟨w1.heap.size, 3, none⟩ = false := Y3.out.frozen 3
  have ez : w3.cell? ⟨w1.heap.size, 3, none⟩ = some (.int .i64 0) := Y3.out.cell 3
  go_wp2_with fail
  have k4 := (Kept.refl (fun z => z = w1.heap.size) w3).setCell (p := ⟨w1.heap.size, 3, none⟩) (fun _ => rfl) (.int .i64 n3)
  have Y4 : Hid (Blk (w3.setCell ⟨w1.heap.size, 3, none⟩ (.int .i64 n3)) (w1.heap.size) 95 #[.int .i64 3, .string s1, .slice none 0 0, .int .i64 n3, .int .i64 0, .slice none 0 0, .slice none 0 0]) := Y3.out.set_ 3 (.int .i64 n3)
  have X4 := Lib.hid (X3.out.kept k4 (by omega))
  have K4 := Lib.hid (K3.out.then_ k4 (fun z hz e => by omega))
  have P4 := Lib.hid (HH.out.put P3.out.at_ (P3.out.blk.kept k4 (by omega)) K4.out)
  have J4 := Lib.hid k4
  have z4 := k4.size
  clear k4 Y3 X3 K3 P3
  generalize w3.setCell ⟨w1.heap.size, 3, none⟩ (.int .i64 n3) = W4 at *
  clear fz ez
  refine (SG.out i3 er3 W4 P4.out).mono ?_
  rintro e w5 ⟨v5, rfl, k5, ⟨n5, rfl⟩, i5, er5, p5, ps5⟩
  have z5 := k5.size
  have X5 := Lib.hid (X4.out.kept k5 (by omega))
  have Y5 := Lib.hid (Y4.out.kept k5 (by omega))
  have K5 := Lib.hid (K4.out.then_ k5 (fun _ _ e => e))
  have P5 := Lib.hid p5
  have PS5 := Lib.hid (PS3.out.then_ ps5)
  have J5 := Lib.hid k5
  clear p5 k5 ps5 K4 P4 X4 Y4 PS3
  have fz : w5.frozen? ⟨w1.heap.size, 4, none⟩ = false := Y5.out.frozen 4
  have ez : w5.cell? ⟨w1.heap.size, 4, none⟩ = some (.int .i64 0) := Y5.out.cell 4
  go_wp2_with fail
  have k6 := (Kept.refl (fun z => z = w1.heap.size) w5).setCell (p := ⟨w1.heap.size, 4, none⟩) (fun _ => rfl) (.int .i64 n5)
  have Y6 : Hid (Blk (w5.setCell ⟨w1.heap.size, 4, none⟩ (.int .i64 n5)) (w1.heap.size) 95 #[.int .i64 3, .string s1, .slice none 0 0, .int .i64 n3, .int .i64 n5, .slice none 0 0, .slice none 0 0]) := Y5.out.set_ 4 (.int .i64 n5)
  have X6 := Lib.hid (X5.out.kept k6 (by omega))
  have K6 := Lib.hid (K5.out.then_ k6 (fun z hz e => by omega))
  have P6 := Lib.hid (HH.out.put P5.out.at_ (P5.out.blk.kept k6 (by omega)) K6.out)
  have J6 := Lib.hid k6
  have z6 := k6.size
  clear k6 Y5 X5 K5 P5
  generalize w5.setCell ⟨w1.heap.size, 4, none⟩ (.int .i64 n5) = W6 at *
  clear fz ez
  refine (MT.out i5 er5 W6 P6.out).mono ?_
  rintro e w7 ⟨v7, rfl, k7, rfl, i7, er7, p7, ps7⟩
  have z7 := k7.size
  have X7 := Lib.hid (X6.out.kept k7 (by omega))
  have Y7 := Lib.hid (Y6.out.kept k7 (by omega))
  have K7 := Lib.hid (K6.out.then_ k7 (fun _ _ e => e))
  have P7 := Lib.hid p7
  have PS7 := Lib.hid (PS5.out.then_ ps7)
  have J7 := Lib.hid k7
  clear p7 k7 ps7 K6 P6 X6 Y6 PS5
  go_wp2_with fail
  refine (INN.out i7 er7 w7 P7.out).mono ?_
  rintro e w8 ⟨v8, rfl, k8, ⟨A8, l8, q8, rfl⟩, i8, er8, p8, ps8⟩
  have z8 := k8.size
  have X8 := Lib.hid (X7.out.kept k8 (by omega))
  have Y8 := Lib.hid (Y7.out.kept k8 (by omega))
  have K8 := Lib.hid (K7.out.then_ k8 (fun _ _ e => e))
  have P8 := Lib.hid p8
  have PS8 := Lib.hid (PS7.out.then_ ps8)
  have J8 := Lib.hid k8
  clear p8 k8 ps8 K7 P7 X7 Y7 PS7
  have fz : w8.frozen? ⟨w1.heap.size, 5, none⟩ = false := Y8.out.frozen 5
  have ez : w8.cell? ⟨w1.heap.size, 5, none⟩ = some (.slice none 0 0) := Y8.out.cell 5
  go_wp2_with fail
  have k9 := (Kept.refl (fun z => z = w1.heap.size) w8).setCell (p := ⟨w1.heap.size, 5, none⟩) (fun _ => rfl) (.slice A8 l8 q8)
  have Y9 : Hid (Blk (w8.setCell ⟨w1.heap.size, 5, none⟩ (.slice A8 l8 q8)) (w1.heap.size) 95 #[.int .i64 3, .string s1, .slice none 0 0, .int .i64 n3, .int .i64 n5, .slice A8 l8 q8, .slice none 0 0]) := Y8.out.set_ 5 (.slice A8 l8 q8)
  have X9 := Lib.hid (X8.out.kept k9 (by omega))
  have K9 := Lib.hid (K8.out.then_ k9 (fun z hz e => by omega))
  have P9 := Lib.hid (HH.out.put P8.out.at_ (P8.out.blk.kept k9 (by omega)) K9.out)
  have J9 := Lib.hid k9
  have z9 := k9.size
  clear k9 Y8 X8 K8 P8
  generalize w8.setCell ⟨w1.heap.size, 5, none⟩ (.slice A8 l8 q8) = W9 at *
  clear fz ez
  refine (MD.out i8 er8 W9 P9.out).mono ?_
  rintro e w10 ⟨v10, rfl, k10, rfl, i10, er10, p10, ps10⟩
  have z10 := k10.size
  have X10 := Lib.hid (X9.out.kept k10 (by omega))
  have Y10 := Lib.hid (Y9.out.kept k10 (by omega))
  have K10 := Lib.hid (K9.out.then_ k10 (fun _ _ e => e))
  have P10 := Lib.hid p10
  have PS10 := Lib.hid (PS8.out.then_ ps10)
  have J10 := Lib.hid k10
  clear p10 k10 ps10 K9 P9 X9 Y9 PS8
  go_upto_region 16 with fail
  have qc0 : w10.cell? ⟨w1.heap.size, 0, none⟩ = some (.int .i64 3) := Y10.out.cell 0
  have qc1 : w10.cell? ⟨w1.heap.size, 1, none⟩ = some (.string s1) := Y10.out.cell 1
  have qc2 : w10.cell? ⟨w1.heap.size, 2, none⟩ = some (.slice none 0 0) := Y10.out.cell 2
  have qc3 : w10.cell? ⟨w1.heap.size, 3, none⟩ = some (.int .i64 n3) := Y10.out.cell 3
  have qc4 : w10.cell? ⟨w1.heap.size, 4, none⟩ = some (.int .i64 n5) := Y10.out.cell 4
  have qc5 : w10.cell? ⟨w1.heap.size, 5, none⟩ = some (.slice A8 l8 q8) := Y10.out.cell 5
  have qc6 : w10.cell? ⟨w1.heap.size, 6, none⟩ = some (.slice none 0 0) := Y10.out.cell 6
  have hx := X10.out
  have sc0 : w10.cell? ⟨w.heap.size, 0, none⟩ = some (.int .i64 0) := hx.cell 0
  have sc1 : w10.cell? ⟨w.heap.size, 1, none⟩ = some (.string ⟨#[]⟩) := hx.cell 1
  have sc2 : w10.cell? ⟨w.heap.size, 2, none⟩ = some (.slice none 0 0) := hx.cell 2
  have sc3 : w10.cell? ⟨w.heap.size, 3, none⟩ = some (.int .i64 0) := hx.cell 3
  have sc4 : w10.cell? ⟨w.heap.size, 4, none⟩ = some (.int .i64 0) := hx.cell 4
  have sc5 : w10.cell? ⟨w.heap.size, 5, none⟩ = some (.slice none 0 0) := hx.cell 5
  have sc6 : w10.cell? ⟨w.heap.size, 6, none⟩ = some (.slice none 0 0) := hx.cell 6
  have tc0 := hx.frozen 0
  have tc1 := hx.frozen 1
  have tc2 := hx.frozen 2
  have tc3 := hx.frozen 3
  have tc4 := hx.frozen 4
  have tc5 := hx.frozen 5
  have tc6 := hx.frozen 6
  go_wp2_with fail
  have X9 := hx.put7 (.int .i64 3) (.string s1) (.slice none 0 0) (.int .i64 n3) (.int .i64 n5) (.slice A8 l8 q8) (.slice none 0 0)
  have k9 := Kept.put7 w10 w.heap.size (.int .i64 3) (.string s1) (.slice none 0 0) (.int .i64 n3) (.int .i64 n5) (.slice A8 l8 q8) (.slice none 0 0)
  generalize ((((((w10.setCell ⟨w.heap.size, 0, none⟩ (.int .i64 3)).setCell ⟨w.heap.size, 1, none⟩ (.string s1)).setCell ⟨w.heap.size, 2, none⟩ (.slice none 0 0)).setCell ⟨w.heap.size, 3, none⟩ (.int .i64 n3)).setCell ⟨w.heap.size, 4, none⟩ (.int .i64 n5)).setCell ⟨w.heap.size, 5, none⟩ (.slice A8 l8 q8)).setCell ⟨w.heap.size, 6, none⟩ (.slice none 0 0) = W9 at *
  clear sc0 sc1 sc2 sc3 sc4 sc5 sc6 qc0 qc1 qc2 qc3 qc4 qc5 qc6
  have sc0 : W9.cell? ⟨w.heap.size, 0, none⟩ = some (.int .i64 3) := X9.cell 0
  have sc1 : W9.cell? ⟨w.heap.size, 1, none⟩ = some (.string s1) := X9.cell 1
  have sc2 : W9.cell? ⟨w.heap.size, 2, none⟩ = some (.slice none 0 0) := X9.cell 2
  have sc3 : W9.cell? ⟨w.heap.size, 3, none⟩ = some (.int .i64 n3) := X9.cell 3
  have sc4 : W9.cell? ⟨w.heap.size, 4, none⟩ = some (.int .i64 n5) := X9.cell 4
  have sc5 : W9.cell? ⟨w.heap.size, 5, none⟩ = some (.slice A8 l8 q8) := X9.cell 5
  have sc6 : W9.cell? ⟨w.heap.size, 6, none⟩ = some (.slice none 0 0) := X9.cell 6
  have KK : Kept (fun z => z = g) w W9 := K10.out.then_ k9 (fun z hz e => by omega)
  have TC : Hid (Kept (fun z => z < w7.heap.size ∨ w8.heap.size ≤ z) w8 W9) := ((J9.out.mono (T := (fun z => z < w7.heap.size ∨ w8.heap.size ≤ z)) (fun z hz e => by omega)).then_ ((J10.out.mono (T := (fun z => z < w7.heap.size ∨ w8.heap.size ≤ z)) (fun z hz e => by omega)).then_ (k9.mono (T := (fun z => z < w7.heap.size ∨ w8.heap.size ≤ z)) (fun z hz e => by omega)) (fun _ _ e => e.imp (fun e => e) (fun e => e))) (fun _ _ e => e.imp (fun e => e) (fun e => e)))
  refine bodyPost_ret (v := .agg #[.int .i64 3, .string s1, .slice none 0 0, .int .i64 n3, .int .i64 n5, .slice A8 l8 q8, .slice none 0 0]) (by simp [results, Tryz.results92, go_sem, sc0, sc1, sc2, sc3, sc4, sc5, sc6]) rfl ⟨_, rfl, KK, ⟨_, _, _, _, _, _, _, _, _, _, _, _, _, rfl⟩, i10, er10, HH.out.put P10.out.at_ (P10.out.blk.kept k9 (by omega)) KK, PS10.out.map _ ?_⟩
  rintro ⟨⟨⟨⟨⟨x1, lo⟩, hi⟩, u1⟩, l⟩, u2⟩ ⟨⟨⟨⟨⟨h1, h2⟩, h3⟩, -⟩, h4⟩, -⟩
  injection h1 with h1
  injection h2 with _ h2
  injection h3 with _ h3
  refine ⟨_, rfl, none, 0, 0, A8, l8, q8, none, 0, 0, ?_, ElsG.none_ _ _ _ _ _ _, (h4.kept (QS_kept d) (by omega) TC.out (fun k _ hk e => by omega)).els, ElsG.none_ _ _ _ _ _ _⟩
  rw [h1, h2, h3]
set_option maxHeartbeats 4000000 in
set_option maxRecDepth 100000 in
theorem stmt_refuse (g c : Nat) (A : Option Addr) (m : Nat → Nat) (ts : List Tk) (d : Nat) (dp : Int) (hd : dp + ((d + 1 : Nat) : Int) = 16) (h0 : 0 ≤ dp) (i : Nat) (w : World) (h : Par w g A c m ts i dp 0) (t : Tk) (ht : ts[i]? = some t) (hk : t.kind = 3) (hx : t.text = [114, 101, 102, 117, 115, 101]) :
    Calls Tryz.prog 92 #[.pointer (some ⟨g, 0, none⟩)] w (StepTo w g c A m ts dp (stmtD (d + 1) (ts.drop i)) (IsEl (QS (d + 1)) w.heap.size) ShSt) := by
  have f0 : Below w.heap.size w (w.alloc (.cells #[.int .i64 0, .string ⟨#[]⟩, .slice none 0 0, .int .i64 0, .int .i64 0, .slice none 0 0, .slice none 0 0] 95)) := (Below.refl _ w).al _
  have x0 := Blk.new w 95 #[.int .i64 0, .string ⟨#[]⟩, .slice none 0 0, .int .i64 0, .int .i64 0, .slice none 0 0, .slice none 0 0]
  have hgl := h.blk.lt
  have HH := Lib.hid h
  have PB0 := Lib.hid (h.below f0)
  have XB0 := Lib.hid x0
  have z0 : (w.alloc (.cells #[.int .i64 0, .string ⟨#[]⟩, .slice none 0 0, .int .i64 0, .int .i64 0, .slice none 0 0, .slice none 0 0] 95)).heap.size = w.heap.size + 1 := by simp
  have KB0 := Lib.hid (Kept.of_below (S := fun z => z = g) f0)
  have hdd : dp < 16 := by omega
  have N1 : Hid (∀ w', Par w' g A c m ts i dp 0 → Calls Tryz.prog 53 #[.pointer (some ⟨g, 0, none⟩), .int .i64 1] w' (Still w' (.bool false))) := fun w' h' => by
    have := next_any g c A m ts i dp 0 1 w' h' t ht
    rwa [show nextB t 0 1 = false from by simp [nextB, hk]] at this
  have TK : Hid (∀ w', Par w' g A c m ts i dp 0 → Calls Tryz.prog 87 #[.pointer (some ⟨g, 0, none⟩), .int .i64 3] w' (ParTo w' g c A m ts dp (tkVal t) (i + 1) 0)) := fun w' h' => by
    have := take_any g c A m ts i dp 0 3 w' h' t ht (by decide)
    rwa [show nextB t 0 3 = true from by simp [nextB, hk]] at this
  have GO : stmtD (d + 1) (ts.drop i) = stP refP ts (i + 1) 0 := by
    rw [drop_tok ht, stmt_word d t _ hk, hx]
    rw [if_neg (by decide)]
    rw [if_neg (by decide)]
    rw [if_pos rfl]
    unfold stP
    rw [if_pos rfl]
  rw [GO]
  have e0 : ((str t.text).toList == [105, 102]) = false := (str_eqL _ _).trans (by rw [hx]; decide)
  have e1 : ((str t.text).toList == [102, 111, 114]) = false := (str_eqL _ _).trans (by rw [hx]; decide)
  have e2 : ((str t.text).toList == [114, 101, 102, 117, 115, 101]) = true := (str_eqL _ _).trans (by rw [hx]; decide)
  clear h f0 x0 GO ht hk hx
  go_enter Tryz.func92, Tryz.ntmps92
  go_upto_region 1 with fail
  generalize w.alloc (.cells #[.int .i64 0, .string ⟨#[]⟩, .slice none 0 0, .int .i64 0, .int .i64 0, .slice none 0 0, .slice none 0 0] 95) = WB at *
  have bp := PB0.out.blk
  unfold parCells at bp
  have c2 : WB.cell? ⟨g, 2, none⟩ = some (.int .i64 dp) := bp.cell 2
  clear bp
  go_wp2_with fail
  refine (N1.out _ PB0.out).mono ?_
  rintro e wq ⟨rfl, q, rfl⟩
  have P0' := Lib.hid (PB0.out.drewN q)
  have X0' := Lib.hid (XB0.out.drewN q)
  have K0' := Lib.hid (KB0.out.drewN q)
  have zq : (WB.drewN q).heap.size = WB.heap.size := rfl
  clear PB0 XB0 KB0 c2
  generalize WB.drewN q = WC at *
  go_wp2_with fail
  refine (TK.out _ P0'.out).mono ?_
  rintro e W0 ⟨rfl, pt, kt⟩
  have P0 := Lib.hid pt
  have X0 := Lib.hid (X0'.out.kept kt (by omega))
  have K0 := Lib.hid (K0'.out.then_ kt (fun _ _ e => e))
  have zt := kt.size
  clear pt kt P0' X0' K0' N1 TK
  go_wp2_with fail
  rw [run_fieldTk1]
  have PSR : Hid (PsAt ts (i + 1) 0 (stP refP ts (i + 1) 0) (fun a => a = .mk 4 [] [] 0 0 [] [])) := ⟨rfl, rfl, rfl⟩
  go_upto_region 18 with fail
  have hx := X0.out
  have sc0 : W0.cell? ⟨w.heap.size, 0, none⟩ = some (.int .i64 0) := hx.cell 0
  have sc1 : W0.cell? ⟨w.heap.size, 1, none⟩ = some (.string ⟨#[]⟩) := hx.cell 1
  have sc2 : W0.cell? ⟨w.heap.size, 2, none⟩ = some (.slice none 0 0) := hx.cell 2
  have sc3 : W0.cell? ⟨w.heap.size, 3, none⟩ = some (.int .i64 0) := hx.cell 3
  have sc4 : W0.cell? ⟨w.heap.size, 4, none⟩ = some (.int .i64 0) := hx.cell 4
  have sc5 : W0.cell? ⟨w.heap.size, 5, none⟩ = some (.slice none 0 0) := hx.cell 5
  have sc6 : W0.cell? ⟨w.heap.size, 6, none⟩ = some (.slice none 0 0) := hx.cell 6
  have tc0 := hx.frozen 0
  have tc1 := hx.frozen 1
  have tc2 := hx.frozen 2
  have tc3 := hx.frozen 3
  have tc4 := hx.frozen 4
  have tc5 := hx.frozen 5
  have tc6 := hx.frozen 6
  go_wp2_with fail
  have X9 := hx.put7 (.int .i64 4) (.string ⟨#[]⟩) (.slice none 0 0) (.int .i64 0) (.int .i64 0) (.slice none 0 0) (.slice none 0 0)
  have k9 := Kept.put7 W0 w.heap.size (.int .i64 4) (.string ⟨#[]⟩) (.slice none 0 0) (.int .i64 0) (.int .i64 0) (.slice none 0 0) (.slice none 0 0)
  generalize ((((((W0.setCell ⟨w.heap.size, 0, none⟩ (.int .i64 4)).setCell ⟨w.heap.size, 1, none⟩ (.string ⟨#[]⟩)).setCell ⟨w.heap.size, 2, none⟩ (.slice none 0 0)).setCell ⟨w.heap.size, 3, none⟩ (.int .i64 0)).setCell ⟨w.heap.size, 4, none⟩ (.int .i64 0)).setCell ⟨w.heap.size, 5, none⟩ (.slice none 0 0)).setCell ⟨w.heap.size, 6, none⟩ (.slice none 0 0) = W9 at *
  clear sc0 sc1 sc2 sc3 sc4 sc5 sc6
  have sc0 : W9.cell? ⟨w.heap.size, 0, none⟩ = some (.int .i64 4) := X9.cell 0
  have sc1 : W9.cell? ⟨w.heap.size, 1, none⟩ = some (.string ⟨#[]⟩) := X9.cell 1
  have sc2 : W9.cell? ⟨w.heap.size, 2, none⟩ = some (.slice none 0 0) := X9.cell 2
  have sc3 : W9.cell? ⟨w.heap.size, 3, none⟩ = some (.int .i64 0) := X9.cell 3
  have sc4 : W9.cell? ⟨w.heap.size, 4, none⟩ = some (.int .i64 0) := X9.cell 4
  have sc5 : W9.cell? ⟨w.heap.size, 5, none⟩ = some (.slice none 0 0) := X9.cell 5
  have sc6 : W9.cell? ⟨w.heap.size, 6, none⟩ = some (.slice none 0 0) := X9.cell 6
  have KK : Kept (fun z => z = g) w W9 := K0.out.then_ k9 (fun z hz e => by omega)
  refine bodyPost_ret (v := .agg #[.int .i64 4, .string ⟨#[]⟩, .slice none 0 0, .int .i64 0, .int .i64 0, .slice none 0 0, .slice none 0 0]) (by simp [results, Tryz.results92, go_sem, sc0, sc1, sc2, sc3, sc4, sc5, sc6]) rfl ⟨_, rfl, KK, ⟨_, _, _, _, _, _, _, _, _, _, _, _, _, rfl⟩, (i + 1), 0, HH.out.put P0.out.at_ (P0.out.blk.kept k9 (by omega)) KK, PSR.out.mono ?_⟩
  rintro a ha
  have ha : a = _ := ha
  subst ha
  exact ⟨_, rfl, none, 0, 0, none, 0, 0, none, 0, 0, rfl, ElsG.none_ _ _ _ _ _ _, ElsG.none_ _ _ _ _ _ _, ElsG.none_ _ _ _ _ _ _⟩
set_option maxHeartbeats 4000000 in
set_option maxRecDepth 100000 in
theorem stmt_over (g c : Nat) (A : Option Addr) (m : Nat → Nat) (ts : List Tk) (d : Nat) (dp : Int) (hd : dp + ((d + 1 : Nat) : Int) = 16) (h0 : 0 ≤ dp) (i : Nat) (w : World) (h : Par w g A c m ts i dp 0) (t : Tk) (ht : ts[i]? = some t) (hk : t.kind = 3) (hx : t.text = [111, 118, 101, 114]) :
    Calls Tryz.prog 92 #[.pointer (some ⟨g, 0, none⟩)] w (StepTo w g c A m ts dp (stmtD (d + 1) (ts.drop i)) (IsEl (QS (d + 1)) w.heap.size) ShSt) := by
  have f0 : Below w.heap.size w (w.alloc (.cells #[.int .i64 0, .string ⟨#[]⟩, .slice none 0 0, .int .i64 0, .int .i64 0, .slice none 0 0, .slice none 0 0] 95)) := (Below.refl _ w).al _
  have x0 := Blk.new w 95 #[.int .i64 0, .string ⟨#[]⟩, .slice none 0 0, .int .i64 0, .int .i64 0, .slice none 0 0, .slice none 0 0]
  have hgl := h.blk.lt
  have HH := Lib.hid h
  have PB0 := Lib.hid (h.below f0)
  have XB0 := Lib.hid x0
  have z0 : (w.alloc (.cells #[.int .i64 0, .string ⟨#[]⟩, .slice none 0 0, .int .i64 0, .int .i64 0, .slice none 0 0, .slice none 0 0] 95)).heap.size = w.heap.size + 1 := by simp
  have KB0 := Lib.hid (Kept.of_below (S := fun z => z = g) f0)
  have hdd : dp < 16 := by omega
  have N1 : Hid (∀ w', Par w' g A c m ts i dp 0 → Calls Tryz.prog 53 #[.pointer (some ⟨g, 0, none⟩), .int .i64 1] w' (Still w' (.bool false))) := fun w' h' => by
    have := next_any g c A m ts i dp 0 1 w' h' t ht
    rwa [show nextB t 0 1 = false from by simp [nextB, hk]] at this
  have TK : Hid (∀ w', Par w' g A c m ts i dp 0 → Calls Tryz.prog 87 #[.pointer (some ⟨g, 0, none⟩), .int .i64 3] w' (ParTo w' g c A m ts dp (tkVal t) (i + 1) 0)) := fun w' h' => by
    have := take_any g c A m ts i dp 0 3 w' h' t ht (by decide)
    rwa [show nextB t 0 3 = true from by simp [nextB, hk]] at this
  have GO : stmtD (d + 1) (ts.drop i) = stP overP ts (i + 1) 0 := by
    rw [drop_tok ht, stmt_word d t _ hk, hx]
    rw [if_neg (by decide)]
    rw [if_neg (by decide)]
    rw [if_neg (by decide)]
    rw [if_neg (by decide)]
    rw [if_neg (by decide)]
    rw [if_pos rfl]
    unfold stP
    rw [if_pos rfl]
  rw [GO]
  have e0 : ((str t.text).toList == [105, 102]) = false := (str_eqL _ _).trans (by rw [hx]; decide)
  have e1 : ((str t.text).toList == [102, 111, 114]) = false := (str_eqL _ _).trans (by rw [hx]; decide)
  have e2 : ((str t.text).toList == [114, 101, 102, 117, 115, 101]) = false := (str_eqL _ _).trans (by rw [hx]; decide)
  have e3 : ((str t.text).toList == [114, 111, 108, 108]) = false := (str_eqL _ _).trans (by rw [hx]; decide)
  have e4 : ((str t.text).toList == [115, 101, 97, 116]) = false := (str_eqL _ _).trans (by rw [hx]; decide)
  have e5 : ((str t.text).toList == [111, 118, 101, 114]) = true := (str_eqL _ _).trans (by rw [hx]; decide)
  clear h f0 x0 GO ht hk hx
  go_enter Tryz.func92, Tryz.ntmps92
  go_upto_region 1 with fail
  generalize w.alloc (.cells #[.int .i64 0, .string ⟨#[]⟩, .slice none 0 0, .int .i64 0, .int .i64 0, .slice none 0 0, .slice none 0 0] 95) = WB at *
  have bp := PB0.out.blk
  unfold parCells at bp
  have c2 : WB.cell? ⟨g, 2, none⟩ = some (.int .i64 dp) := bp.cell 2
  clear bp
  go_wp2_with fail
  refine (N1.out _ PB0.out).mono ?_
  rintro e wq ⟨rfl, q, rfl⟩
  have P0' := Lib.hid (PB0.out.drewN q)
  have X0' := Lib.hid (XB0.out.drewN q)
  have K0' := Lib.hid (KB0.out.drewN q)
  have zq : (WB.drewN q).heap.size = WB.heap.size := rfl
  clear PB0 XB0 KB0 c2
  generalize WB.drewN q = WC at *
  go_wp2_with fail
  refine (TK.out _ P0'.out).mono ?_
  rintro e W0 ⟨rfl, pt, kt⟩
  have P0 := Lib.hid pt
  have X0 := Lib.hid (X0'.out.kept kt (by omega))
  have K0 := Lib.hid (K0'.out.then_ kt (fun _ _ e => e))
  have zt := kt.size
  clear pt kt P0' X0' K0' N1 TK
  go_wp2_with fail
  rw [run_fieldTk1]
  have PSR : Hid (PsAt ts (i + 1) 0 (stP overP ts (i + 1) 0) (fun a => a = .mk 7 [] [] 0 0 [] [])) := ⟨rfl, rfl, rfl⟩
  go_upto_region 26 with fail
  have hx := X0.out
  have sc0 : W0.cell? ⟨w.heap.size, 0, none⟩ = some (.int .i64 0) := hx.cell 0
  have sc1 : W0.cell? ⟨w.heap.size, 1, none⟩ = some (.string ⟨#[]⟩) := hx.cell 1
  have sc2 : W0.cell? ⟨w.heap.size, 2, none⟩ = some (.slice none 0 0) := hx.cell 2
  have sc3 : W0.cell? ⟨w.heap.size, 3, none⟩ = some (.int .i64 0) := hx.cell 3
  have sc4 : W0.cell? ⟨w.heap.size, 4, none⟩ = some (.int .i64 0) := hx.cell 4
  have sc5 : W0.cell? ⟨w.heap.size, 5, none⟩ = some (.slice none 0 0) := hx.cell 5
  have sc6 : W0.cell? ⟨w.heap.size, 6, none⟩ = some (.slice none 0 0) := hx.cell 6
  have tc0 := hx.frozen 0
  have tc1 := hx.frozen 1
  have tc2 := hx.frozen 2
  have tc3 := hx.frozen 3
  have tc4 := hx.frozen 4
  have tc5 := hx.frozen 5
  have tc6 := hx.frozen 6
  go_wp2_with fail
  have X9 := hx.put7 (.int .i64 7) (.string ⟨#[]⟩) (.slice none 0 0) (.int .i64 0) (.int .i64 0) (.slice none 0 0) (.slice none 0 0)
  have k9 := Kept.put7 W0 w.heap.size (.int .i64 7) (.string ⟨#[]⟩) (.slice none 0 0) (.int .i64 0) (.int .i64 0) (.slice none 0 0) (.slice none 0 0)
  generalize ((((((W0.setCell ⟨w.heap.size, 0, none⟩ (.int .i64 7)).setCell ⟨w.heap.size, 1, none⟩ (.string ⟨#[]⟩)).setCell ⟨w.heap.size, 2, none⟩ (.slice none 0 0)).setCell ⟨w.heap.size, 3, none⟩ (.int .i64 0)).setCell ⟨w.heap.size, 4, none⟩ (.int .i64 0)).setCell ⟨w.heap.size, 5, none⟩ (.slice none 0 0)).setCell ⟨w.heap.size, 6, none⟩ (.slice none 0 0) = W9 at *
  clear sc0 sc1 sc2 sc3 sc4 sc5 sc6
  have sc0 : W9.cell? ⟨w.heap.size, 0, none⟩ = some (.int .i64 7) := X9.cell 0
  have sc1 : W9.cell? ⟨w.heap.size, 1, none⟩ = some (.string ⟨#[]⟩) := X9.cell 1
  have sc2 : W9.cell? ⟨w.heap.size, 2, none⟩ = some (.slice none 0 0) := X9.cell 2
  have sc3 : W9.cell? ⟨w.heap.size, 3, none⟩ = some (.int .i64 0) := X9.cell 3
  have sc4 : W9.cell? ⟨w.heap.size, 4, none⟩ = some (.int .i64 0) := X9.cell 4
  have sc5 : W9.cell? ⟨w.heap.size, 5, none⟩ = some (.slice none 0 0) := X9.cell 5
  have sc6 : W9.cell? ⟨w.heap.size, 6, none⟩ = some (.slice none 0 0) := X9.cell 6
  have KK : Kept (fun z => z = g) w W9 := K0.out.then_ k9 (fun z hz e => by omega)
  refine bodyPost_ret (v := .agg #[.int .i64 7, .string ⟨#[]⟩, .slice none 0 0, .int .i64 0, .int .i64 0, .slice none 0 0, .slice none 0 0]) (by simp [results, Tryz.results92, go_sem, sc0, sc1, sc2, sc3, sc4, sc5, sc6]) rfl ⟨_, rfl, KK, ⟨_, _, _, _, _, _, _, _, _, _, _, _, _, rfl⟩, (i + 1), 0, HH.out.put P0.out.at_ (P0.out.blk.kept k9 (by omega)) KK, PSR.out.mono ?_⟩
  rintro a ha
  have ha : a = _ := ha
  subst ha
  exact ⟨_, rfl, none, 0, 0, none, 0, 0, none, 0, 0, rfl, ElsG.none_ _ _ _ _ _ _, ElsG.none_ _ _ _ _ _ _, ElsG.none_ _ _ _ _ _ _⟩
set_option maxHeartbeats 4000000 in
set_option maxRecDepth 100000 in
theorem stmt_roll (g c : Nat) (A : Option Addr) (m : Nat → Nat) (ts : List Tk) (d : Nat) (dp : Int) (hd : dp + ((d + 1 : Nat) : Int) = 16) (h0 : 0 ≤ dp) (i : Nat) (w : World) (h : Par w g A c m ts i dp 0) (t : Tk) (ht : ts[i]? = some t) (hk : t.kind = 3) (hx : t.text = [114, 111, 108, 108]) :
    Calls Tryz.prog 92 #[.pointer (some ⟨g, 0, none⟩)] w (StepTo w g c A m ts dp (stmtD (d + 1) (ts.drop i)) (IsEl (QS (d + 1)) w.heap.size) ShSt) := by
  have f0 : Below w.heap.size w (w.alloc (.cells #[.int .i64 0, .string ⟨#[]⟩, .slice none 0 0, .int .i64 0, .int .i64 0, .slice none 0 0, .slice none 0 0] 95)) := (Below.refl _ w).al _
  have x0 := Blk.new w 95 #[.int .i64 0, .string ⟨#[]⟩, .slice none 0 0, .int .i64 0, .int .i64 0, .slice none 0 0, .slice none 0 0]
  have hgl := h.blk.lt
  have HH := Lib.hid h
  have PB0 := Lib.hid (h.below f0)
  have XB0 := Lib.hid x0
  have z0 : (w.alloc (.cells #[.int .i64 0, .string ⟨#[]⟩, .slice none 0 0, .int .i64 0, .int .i64 0, .slice none 0 0, .slice none 0 0] 95)).heap.size = w.heap.size + 1 := by simp
  have KB0 := Lib.hid (Kept.of_below (S := fun z => z = g) f0)
  have hdd : dp < 16 := by omega
  have N1 : Hid (∀ w', Par w' g A c m ts i dp 0 → Calls Tryz.prog 53 #[.pointer (some ⟨g, 0, none⟩), .int .i64 1] w' (Still w' (.bool false))) := fun w' h' => by
    have := next_any g c A m ts i dp 0 1 w' h' t ht
    rwa [show nextB t 0 1 = false from by simp [nextB, hk]] at this
  have TK : Hid (∀ w', Par w' g A c m ts i dp 0 → Calls Tryz.prog 87 #[.pointer (some ⟨g, 0, none⟩), .int .i64 3] w' (ParTo w' g c A m ts dp (tkVal t) (i + 1) 0)) := fun w' h' => by
    have := take_any g c A m ts i dp 0 3 w' h' t ht (by decide)
    rwa [show nextB t 0 3 = true from by simp [nextB, hk]] at this
  have NM := Lib.hid (fun i er w h => pname_any g c A m ts i dp er w h)
  have NU := Lib.hid (fun i er w h => pnumber_any g c A m ts i dp er w h)
  have GO : stmtD (d + 1) (ts.drop i) = stP rollP ts (i + 1) 0 := by
    rw [drop_tok ht, stmt_word d t _ hk, hx]
    rw [if_neg (by decide)]
    rw [if_neg (by decide)]
    rw [if_neg (by decide)]
    rw [if_pos rfl]
    unfold stP
    rw [if_pos rfl]
  rw [GO, roll_st]
  have e0 : ((str t.text).toList == [105, 102]) = false := (str_eqL _ _).trans (by rw [hx]; decide)
  have e1 : ((str t.text).toList == [102, 111, 114]) = false := (str_eqL _ _).trans (by rw [hx]; decide)
  have e2 : ((str t.text).toList == [114, 101, 102, 117, 115, 101]) = false := (str_eqL _ _).trans (by rw [hx]; decide)
  have e3 : ((str t.text).toList == [114, 111, 108, 108]) = true := (str_eqL _ _).trans (by rw [hx]; decide)
  clear h f0 x0 GO ht hk hx
  go_enter Tryz.func92, Tryz.ntmps92
  go_upto_region 1 with fail
  generalize w.alloc (.cells #[.int .i64 0, .string ⟨#[]⟩, .slice none 0 0, .int .i64 0, .int .i64 0, .slice none 0 0, .slice none 0 0] 95) = WB at *
  have bp := PB0.out.blk
  unfold parCells at bp
  have c2 : WB.cell? ⟨g, 2, none⟩ = some (.int .i64 dp) := bp.cell 2
  clear bp
  go_wp2_with fail
  refine (N1.out _ PB0.out).mono ?_
  rintro e wq ⟨rfl, q, rfl⟩
  have P0' := Lib.hid (PB0.out.drewN q)
  have X0' := Lib.hid (XB0.out.drewN q)
  have K0' := Lib.hid (KB0.out.drewN q)
  have zq : (WB.drewN q).heap.size = WB.heap.size := rfl
  clear PB0 XB0 KB0 c2
  generalize WB.drewN q = WC at *
  go_wp2_with fail
  refine (TK.out _ P0'.out).mono ?_
  rintro e W0 ⟨rfl, pt, kt⟩
  have P0 := Lib.hid pt
  have X0 := Lib.hid (X0'.out.kept kt (by omega))
  have K0 := Lib.hid (K0'.out.then_ kt (fun _ _ e => e))
  have zt := kt.size
  clear pt kt P0' X0' K0' N1 TK
  go_wp2_with fail
  rw [run_fieldTk1]
  go_wp2_with fail
  refine (NM.out (i + 1) 0 W0 P0.out).mono ?_
  rintro e w1 ⟨v1, rfl, k1, ⟨s1, rfl⟩, i1, er1, p1, ps1⟩
  have z1 := k1.size
  have X1 := Lib.hid (X0.out.kept k1 (by omega))
  have K1 := Lib.hid (K0.out.then_ k1 (fun _ _ e => e))
  have P1 := Lib.hid p1
  have PS1 := Lib.hid ps1
  have J1 := Lib.hid k1
  clear p1 k1 ps1 K0 P0 X0
  go_upto_region 21 with fail
  have f2 : Below w1.heap.size w1 (w1.alloc (.cells #[.int .i64 5, .string s1, .slice none 0 0, .int .i64 0, .int .i64 0, .slice none 0 0, .slice none 0 0] 95)) := (Below.refl _ _).al _
  have Y2 := Lib.hid (Blk.new w1 95 #[.int .i64 5, .string s1, .slice none 0 0, .int .i64 0, .int .i64 0, .slice none 0 0, .slice none 0 0])
  have P2 := Lib.hid (P1.out.below f2)
  have X2 := Lib.hid (X1.out.below f2 X1.out.lt)
  have K2 := Lib.hid (K1.out.then_ (Kept.of_below (S := fun z => z = g) f2) (fun _ _ e => e))
  have J2 := Lib.hid (Kept.of_below (S := fun z => z = g) f2)
  have z2 : (w1.alloc (.cells #[.int .i64 5, .string s1, .slice none 0 0, .int .i64 0, .int .i64 0, .slice none 0 0, .slice none 0 0] 95)).heap.size = w1.heap.size + 1 := by simp
  have xl2 := X1.out.lt
  clear f2 K1 P1 X1
  generalize w1.alloc (.cells #[.int .i64 5, .string s1, .slice none 0 0, .int .i64 0, .int .i64 0, .slice none 0 0, .slice none 0 0] 95) = W2 at *
  go_wp2_with fail
  refine (NU.out i1 er1 W2 P2.out).mono ?_
  rintro e w3 ⟨v3, rfl, k3, ⟨n3, rfl⟩, i3, er3, p3, ps3⟩
  have z3 := k3.size
  have X3 := Lib.hid (X2.out.kept k3 (by omega))
  have Y3 := Lib.hid (Y2.out.kept k3 (by omega))
  have K3 := Lib.hid (K2.out.then_ k3 (fun _ _ e => e))
  have P3 := Lib.hid p3
  have PS3 := Lib.hid (PS1.out.then_ ps3)
  have J3 := Lib.hid k3
  clear p3 k3 ps3 K2 P2 X2 Y2 PS1
  have fz : w3.frozen? ⟨w1.heap.size, 3, none⟩ = false := Y3.out.frozen 3
  have ez : w3.cell? ⟨w1.heap.size, 3, none⟩ = some (.int .i64 0) := Y3.out.cell 3
  go_upto_region 22 with fail
  have k4 := (Kept.refl (fun z => z = w1.heap.size) w3).setCell (p := ⟨w1.heap.size, 3, none⟩) (fun _ => rfl) (.int .i64 n3)
  have Y4 : Hid (Blk (w3.setCell ⟨w1.heap.size, 3, none⟩ (.int .i64 n3)) (w1.heap.size) 95 #[.int .i64 5, .string s1, .slice none 0 0, .int .i64 n3, .int .i64 0, .slice none 0 0, .slice none 0 0]) := Y3.out.set_ 3 (.int .i64 n3)
  have X4 := Lib.hid (X3.out.kept k4 (by omega))
  have K4 := Lib.hid (K3.out.then_ k4 (fun z hz e => by omega))
  have P4 := Lib.hid (HH.out.put P3.out.at_ (P3.out.blk.kept k4 (by omega)) K4.out)
  have J4 := Lib.hid k4
  have z4 := k4.size
  clear k4 Y3 X3 K3 P3
  generalize w3.setCell ⟨w1.heap.size, 3, none⟩ (.int .i64 n3) = W4 at *
  clear fz ez
  have qc0 : W4.cell? ⟨w1.heap.size, 0, none⟩ = some (.int .i64 5) := Y4.out.cell 0
  have qc1 : W4.cell? ⟨w1.heap.size, 1, none⟩ = some (.string s1) := Y4.out.cell 1
  have qc2 : W4.cell? ⟨w1.heap.size, 2, none⟩ = some (.slice none 0 0) := Y4.out.cell 2
  have qc3 : W4.cell? ⟨w1.heap.size, 3, none⟩ = some (.int .i64 n3) := Y4.out.cell 3
  have qc4 : W4.cell? ⟨w1.heap.size, 4, none⟩ = some (.int .i64 0) := Y4.out.cell 4
  have qc5 : W4.cell? ⟨w1.heap.size, 5, none⟩ = some (.slice none 0 0) := Y4.out.cell 5
  have qc6 : W4.cell? ⟨w1.heap.size, 6, none⟩ = some (.slice none 0 0) := Y4.out.cell 6
  have hx := X4.out
  have sc0 : W4.cell? ⟨w.heap.size, 0, none⟩ = some (.int .i64 0) := hx.cell 0
  have sc1 : W4.cell? ⟨w.heap.size, 1, none⟩ = some (.string ⟨#[]⟩) := hx.cell 1
  have sc2 : W4.cell? ⟨w.heap.size, 2, none⟩ = some (.slice none 0 0) := hx.cell 2
  have sc3 : W4.cell? ⟨w.heap.size, 3, none⟩ = some (.int .i64 0) := hx.cell 3
  have sc4 : W4.cell? ⟨w.heap.size, 4, none⟩ = some (.int .i64 0) := hx.cell 4
  have sc5 : W4.cell? ⟨w.heap.size, 5, none⟩ = some (.slice none 0 0) := hx.cell 5
  have sc6 : W4.cell? ⟨w.heap.size, 6, none⟩ = some (.slice none 0 0) := hx.cell 6
  have tc0 := hx.frozen 0
  have tc1 := hx.frozen 1
  have tc2 := hx.frozen 2
  have tc3 := hx.frozen 3
  have tc4 := hx.frozen 4
  have tc5 := hx.frozen 5
  have tc6 := hx.frozen 6
  go_wp2_with fail
  have X9 := hx.put7 (.int .i64 5) (.string s1) (.slice none 0 0) (.int .i64 n3) (.int .i64 0) (.slice none 0 0) (.slice none 0 0)
  have k9 := Kept.put7 W4 w.heap.size (.int .i64 5) (.string s1) (.slice none 0 0) (.int .i64 n3) (.int .i64 0) (.slice none 0 0) (.slice none 0 0)
  generalize ((((((W4.setCell ⟨w.heap.size, 0, none⟩ (.int .i64 5)).setCell ⟨w.heap.size, 1, none⟩ (.string s1)).setCell ⟨w.heap.size, 2, none⟩ (.slice none 0 0)).setCell ⟨w.heap.size, 3, none⟩ (.int .i64 n3)).setCell ⟨w.heap.size, 4, none⟩ (.int .i64 0)).setCell ⟨w.heap.size, 5, none⟩ (.slice none 0 0)).setCell ⟨w.heap.size, 6, none⟩ (.slice none 0 0) = W9 at *
  clear sc0 sc1 sc2 sc3 sc4 sc5 sc6 qc0 qc1 qc2 qc3 qc4 qc5 qc6
  have sc0 : W9.cell? ⟨w.heap.size, 0, none⟩ = some (.int .i64 5) := X9.cell 0
  have sc1 : W9.cell? ⟨w.heap.size, 1, none⟩ = some (.string s1) := X9.cell 1
  have sc2 : W9.cell? ⟨w.heap.size, 2, none⟩ = some (.slice none 0 0) := X9.cell 2
  have sc3 : W9.cell? ⟨w.heap.size, 3, none⟩ = some (.int .i64 n3) := X9.cell 3
  have sc4 : W9.cell? ⟨w.heap.size, 4, none⟩ = some (.int .i64 0) := X9.cell 4
  have sc5 : W9.cell? ⟨w.heap.size, 5, none⟩ = some (.slice none 0 0) := X9.cell 5
  have sc6 : W9.cell? ⟨w.heap.size, 6, none⟩ = some (.slice none 0 0) := X9.cell 6
  have KK : Kept (fun z => z = g) w W9 := K4.out.then_ k9 (fun z hz e => by omega)
  refine bodyPost_ret (v := .agg #[.int .i64 5, .string s1, .slice none 0 0, .int .i64 n3, .int .i64 0, .slice none 0 0, .slice none 0 0]) (by simp [results, Tryz.results92, go_sem, sc0, sc1, sc2, sc3, sc4, sc5, sc6]) rfl ⟨_, rfl, KK, ⟨_, _, _, _, _, _, _, _, _, _, _, _, _, rfl⟩, i3, er3, HH.out.put P4.out.at_ (P4.out.blk.kept k9 (by omega)) KK, PS3.out.map _ ?_⟩
  rintro ⟨x1, n⟩ ⟨h1, h2⟩
  injection h1 with h1
  injection h2 with _ h2
  refine ⟨_, rfl, none, 0, 0, none, 0, 0, none, 0, 0, ?_, ElsG.none_ _ _ _ _ _ _, ElsG.none_ _ _ _ _ _ _, ElsG.none_ _ _ _ _ _ _⟩
  rw [h1, h2]
set_option maxHeartbeats 4000000 in
set_option maxRecDepth 100000 in
theorem stmt_seat (g c : Nat) (A : Option Addr) (m : Nat → Nat) (ts : List Tk) (d : Nat) (dp : Int) (hd : dp + ((d + 1 : Nat) : Int) = 16) (h0 : 0 ≤ dp) (i : Nat) (w : World) (h : Par w g A c m ts i dp 0) (t : Tk) (ht : ts[i]? = some t) (hk : t.kind = 3) (hx : t.text = [115, 101, 97, 116]) :
    Calls Tryz.prog 92 #[.pointer (some ⟨g, 0, none⟩)] w (StepTo w g c A m ts dp (stmtD (d + 1) (ts.drop i)) (IsEl (QS (d + 1)) w.heap.size) ShSt) := by
  have f0 : Below w.heap.size w (w.alloc (.cells #[.int .i64 0, .string ⟨#[]⟩, .slice none 0 0, .int .i64 0, .int .i64 0, .slice none 0 0, .slice none 0 0] 95)) := (Below.refl _ w).al _
  have x0 := Blk.new w 95 #[.int .i64 0, .string ⟨#[]⟩, .slice none 0 0, .int .i64 0, .int .i64 0, .slice none 0 0, .slice none 0 0]
  have hgl := h.blk.lt
  have HH := Lib.hid h
  have PB0 := Lib.hid (h.below f0)
  have XB0 := Lib.hid x0
  have z0 : (w.alloc (.cells #[.int .i64 0, .string ⟨#[]⟩, .slice none 0 0, .int .i64 0, .int .i64 0, .slice none 0 0, .slice none 0 0] 95)).heap.size = w.heap.size + 1 := by simp
  have KB0 := Lib.hid (Kept.of_below (S := fun z => z = g) f0)
  have hdd : dp < 16 := by omega
  have N1 : Hid (∀ w', Par w' g A c m ts i dp 0 → Calls Tryz.prog 53 #[.pointer (some ⟨g, 0, none⟩), .int .i64 1] w' (Still w' (.bool false))) := fun w' h' => by
    have := next_any g c A m ts i dp 0 1 w' h' t ht
    rwa [show nextB t 0 1 = false from by simp [nextB, hk]] at this
  have TK : Hid (∀ w', Par w' g A c m ts i dp 0 → Calls Tryz.prog 87 #[.pointer (some ⟨g, 0, none⟩), .int .i64 3] w' (ParTo w' g c A m ts dp (tkVal t) (i + 1) 0)) := fun w' h' => by
    have := take_any g c A m ts i dp 0 3 w' h' t ht (by decide)
    rwa [show nextB t 0 3 = true from by simp [nextB, hk]] at this
  have EX := Lib.hid (fun i er w h => exprP_any g c A m ts i dp er w h)
  have GO : stmtD (d + 1) (ts.drop i) = stP seatP ts (i + 1) 0 := by
    rw [drop_tok ht, stmt_word d t _ hk, hx]
    rw [if_neg (by decide)]
    rw [if_neg (by decide)]
    rw [if_neg (by decide)]
    rw [if_neg (by decide)]
    rw [if_pos rfl]
    unfold stP
    rw [if_pos rfl]
  rw [GO, seat_st]
  have e0 : ((str t.text).toList == [105, 102]) = false := (str_eqL _ _).trans (by rw [hx]; decide)
  have e1 : ((str t.text).toList == [102, 111, 114]) = false := (str_eqL _ _).trans (by rw [hx]; decide)
  have e2 : ((str t.text).toList == [114, 101, 102, 117, 115, 101]) = false := (str_eqL _ _).trans (by rw [hx]; decide)
  have e3 : ((str t.text).toList == [114, 111, 108, 108]) = false := (str_eqL _ _).trans (by rw [hx]; decide)
  have e4 : ((str t.text).toList == [115, 101, 97, 116]) = true := (str_eqL _ _).trans (by rw [hx]; decide)
  clear h f0 x0 GO ht hk hx
  go_enter Tryz.func92, Tryz.ntmps92
  go_upto_region 1 with fail
  generalize w.alloc (.cells #[.int .i64 0, .string ⟨#[]⟩, .slice none 0 0, .int .i64 0, .int .i64 0, .slice none 0 0, .slice none 0 0] 95) = WB at *
  have bp := PB0.out.blk
  unfold parCells at bp
  have c2 : WB.cell? ⟨g, 2, none⟩ = some (.int .i64 dp) := bp.cell 2
  clear bp
  go_wp2_with fail
  refine (N1.out _ PB0.out).mono ?_
  rintro e wq ⟨rfl, q, rfl⟩
  have P0' := Lib.hid (PB0.out.drewN q)
  have X0' := Lib.hid (XB0.out.drewN q)
  have K0' := Lib.hid (KB0.out.drewN q)
  have zq : (WB.drewN q).heap.size = WB.heap.size := rfl
  clear PB0 XB0 KB0 c2
  generalize WB.drewN q = WC at *
  go_wp2_with fail
  refine (TK.out _ P0'.out).mono ?_
  rintro e W0 ⟨rfl, pt, kt⟩
  have P0 := Lib.hid pt
  have X0 := Lib.hid (X0'.out.kept kt (by omega))
  have K0 := Lib.hid (K0'.out.then_ kt (fun _ _ e => e))
  have zt := kt.size
  clear pt kt P0' X0' K0' N1 TK
  go_wp2_with fail
  rw [run_fieldTk1]
  go_wp2_with fail
  refine (EX.out (i + 1) 0 W0 P0.out).mono ?_
  rintro e w1 ⟨v1, rfl, k1, ⟨op1, N1, nm1, B1, l1, q1, rfl⟩, i1, er1, p1, ps1⟩
  have z1 := k1.size
  have X1 := Lib.hid (X0.out.kept k1 (by omega))
  have K1 := Lib.hid (K0.out.then_ k1 (fun _ _ e => e))
  have P1 := Lib.hid p1
  have PS1 := Lib.hid ps1
  have J1 := Lib.hid k1
  clear p1 k1 ps1 K0 P0 X0
  have f2 : Below w1.heap.size w1 (w1.alloc (.cells #[.int .i64 op1, .int .i64 N1, .string nm1, .slice B1 l1 q1] 40)) := (Below.refl _ _).al _
  have B2 := Lib.hid (Blk.new w1 40 #[.int .i64 op1, .int .i64 N1, .string nm1, .slice B1 l1 q1])
  have P2 := Lib.hid (P1.out.below f2)
  have X2 := Lib.hid (X1.out.below f2 X1.out.lt)
  have hx : Blk (w1.alloc (.cells #[.int .i64 op1, .int .i64 N1, .string nm1, .slice B1 l1 q1] 40)) w.heap.size 95 #[.int .i64 0, .string ⟨#[]⟩, .slice none 0 0, .int .i64 0, .int .i64 0, .slice none 0 0, .slice none 0 0] := X2.out
  have K2 := Lib.hid (K1.out.then_ (Kept.of_below (S := fun z => z = g) f2) (fun _ _ e => e))
  have J2 := Lib.hid (Kept.of_below (S := fun z => z = g) f2)
  have z2 : (w1.alloc (.cells #[.int .i64 op1, .int .i64 N1, .string nm1, .slice B1 l1 q1] 40)).heap.size = w1.heap.size + 1 := by simp
  clear f2 K1 P1 X1
  have pc0 : (w1.alloc (.cells #[.int .i64 op1, .int .i64 N1, .string nm1, .slice B1 l1 q1] 40)).cell? ⟨w.heap.size, 0, none⟩ = some (.int .i64 0) := hx.cell 0
  have pc1 : (w1.alloc (.cells #[.int .i64 op1, .int .i64 N1, .string nm1, .slice B1 l1 q1] 40)).cell? ⟨w.heap.size, 1, none⟩ = some (.string ⟨#[]⟩) := hx.cell 1
  have pc2 : (w1.alloc (.cells #[.int .i64 op1, .int .i64 N1, .string nm1, .slice B1 l1 q1] 40)).cell? ⟨w.heap.size, 2, none⟩ = some (.slice none 0 0) := hx.cell 2
  have pc3 : (w1.alloc (.cells #[.int .i64 op1, .int .i64 N1, .string nm1, .slice B1 l1 q1] 40)).cell? ⟨w.heap.size, 3, none⟩ = some (.int .i64 0) := hx.cell 3
  have pc4 : (w1.alloc (.cells #[.int .i64 op1, .int .i64 N1, .string nm1, .slice B1 l1 q1] 40)).cell? ⟨w.heap.size, 4, none⟩ = some (.int .i64 0) := hx.cell 4
  have pc5 : (w1.alloc (.cells #[.int .i64 op1, .int .i64 N1, .string nm1, .slice B1 l1 q1] 40)).cell? ⟨w.heap.size, 5, none⟩ = some (.slice none 0 0) := hx.cell 5
  have pc6 : (w1.alloc (.cells #[.int .i64 op1, .int .i64 N1, .string nm1, .slice B1 l1 q1] 40)).cell? ⟨w.heap.size, 6, none⟩ = some (.slice none 0 0) := hx.cell 6
  have pt0 := hx.frozen 0
  have pt1 := hx.frozen 1
  have pt2 := hx.frozen 2
  have pt3 := hx.frozen 3
  have pt4 := hx.frozen 4
  have pt5 := hx.frozen 5
  have pt6 := hx.frozen 6
  clear hx
  go_wp2_with fail
  clear pc0 pc1 pc2 pc3 pc4 pc5 pc6 pt0 pt1 pt2 pt3 pt4 pt5 pt6
  have hx := X2.out
  have sc0 : (w1.alloc (.cells #[.int .i64 op1, .int .i64 N1, .string nm1, .slice B1 l1 q1] 40)).cell? ⟨w.heap.size, 0, none⟩ = some (.int .i64 0) := hx.cell 0
  have sc1 : (w1.alloc (.cells #[.int .i64 op1, .int .i64 N1, .string nm1, .slice B1 l1 q1] 40)).cell? ⟨w.heap.size, 1, none⟩ = some (.string ⟨#[]⟩) := hx.cell 1
  have sc2 : (w1.alloc (.cells #[.int .i64 op1, .int .i64 N1, .string nm1, .slice B1 l1 q1] 40)).cell? ⟨w.heap.size, 2, none⟩ = some (.slice none 0 0) := hx.cell 2
  have sc3 : (w1.alloc (.cells #[.int .i64 op1, .int .i64 N1, .string nm1, .slice B1 l1 q1] 40)).cell? ⟨w.heap.size, 3, none⟩ = some (.int .i64 0) := hx.cell 3
  have sc4 : (w1.alloc (.cells #[.int .i64 op1, .int .i64 N1, .string nm1, .slice B1 l1 q1] 40)).cell? ⟨w.heap.size, 4, none⟩ = some (.int .i64 0) := hx.cell 4
  have sc5 : (w1.alloc (.cells #[.int .i64 op1, .int .i64 N1, .string nm1, .slice B1 l1 q1] 40)).cell? ⟨w.heap.size, 5, none⟩ = some (.slice none 0 0) := hx.cell 5
  have sc6 : (w1.alloc (.cells #[.int .i64 op1, .int .i64 N1, .string nm1, .slice B1 l1 q1] 40)).cell? ⟨w.heap.size, 6, none⟩ = some (.slice none 0 0) := hx.cell 6
  have tc0 := hx.frozen 0
  have tc1 := hx.frozen 1
  have tc2 := hx.frozen 2
  have tc3 := hx.frozen 3
  have tc4 := hx.frozen 4
  have tc5 := hx.frozen 5
  have tc6 := hx.frozen 6
  skip
  have X9 := hx.put7 (.int .i64 6) (.string ⟨#[]⟩) (.slice (some ⟨w1.heap.size, 0, none⟩) 1 1) (.int .i64 0) (.int .i64 0) (.slice none 0 0) (.slice none 0 0)
  have k9 := Kept.put7 (w1.alloc (.cells #[.int .i64 op1, .int .i64 N1, .string nm1, .slice B1 l1 q1] 40)) w.heap.size (.int .i64 6) (.string ⟨#[]⟩) (.slice (some ⟨w1.heap.size, 0, none⟩) 1 1) (.int .i64 0) (.int .i64 0) (.slice none 0 0) (.slice none 0 0)
  generalize (((((((w1.alloc (.cells #[.int .i64 op1, .int .i64 N1, .string nm1, .slice B1 l1 q1] 40)).setCell ⟨w.heap.size, 0, none⟩ (.int .i64 6)).setCell ⟨w.heap.size, 1, none⟩ (.string ⟨#[]⟩)).setCell ⟨w.heap.size, 2, none⟩ (.slice (some ⟨w1.heap.size, 0, none⟩) 1 1)).setCell ⟨w.heap.size, 3, none⟩ (.int .i64 0)).setCell ⟨w.heap.size, 4, none⟩ (.int .i64 0)).setCell ⟨w.heap.size, 5, none⟩ (.slice none 0 0)).setCell ⟨w.heap.size, 6, none⟩ (.slice none 0 0) = W9 at *
  clear sc0 sc1 sc2 sc3 sc4 sc5 sc6
  have sc0 : W9.cell? ⟨w.heap.size, 0, none⟩ = some (.int .i64 6) := X9.cell 0
  have sc1 : W9.cell? ⟨w.heap.size, 1, none⟩ = some (.string ⟨#[]⟩) := X9.cell 1
  have sc2 : W9.cell? ⟨w.heap.size, 2, none⟩ = some (.slice (some ⟨w1.heap.size, 0, none⟩) 1 1) := X9.cell 2
  have sc3 : W9.cell? ⟨w.heap.size, 3, none⟩ = some (.int .i64 0) := X9.cell 3
  have sc4 : W9.cell? ⟨w.heap.size, 4, none⟩ = some (.int .i64 0) := X9.cell 4
  have sc5 : W9.cell? ⟨w.heap.size, 5, none⟩ = some (.slice none 0 0) := X9.cell 5
  have sc6 : W9.cell? ⟨w.heap.size, 6, none⟩ = some (.slice none 0 0) := X9.cell 6
  have KK : Kept (fun z => z = g) w W9 := K2.out.then_ k9 (fun z hz e => by omega)
  have TA : Hid (Kept (fun z => z < W0.heap.size ∨ w1.heap.size ≤ z) w1 W9) := ((J2.out.mono (T := (fun z => z < W0.heap.size ∨ w1.heap.size ≤ z)) (fun z hz e => by omega)).then_ (k9.mono (T := (fun z => z < W0.heap.size ∨ w1.heap.size ≤ z)) (fun z hz e => by omega)) (fun _ _ e => e.imp (fun e => e) (fun e => e)))
  have TB : Hid (Kept (fun z => z < w1.heap.size ∨ w1.heap.size + 1 ≤ z) (w1.alloc (.cells #[.int .i64 op1, .int .i64 N1, .string nm1, .slice B1 l1 q1] 40)) W9) := (k9.mono (T := (fun z => z < w1.heap.size ∨ w1.heap.size + 1 ≤ z)) (fun z hz e => by omega))
  refine bodyPost_ret (v := .agg #[.int .i64 6, .string ⟨#[]⟩, .slice (some ⟨w1.heap.size, 0, none⟩) 1 1, .int .i64 0, .int .i64 0, .slice none 0 0, .slice none 0 0]) (by simp [results, Tryz.results92, go_sem, sc0, sc1, sc2, sc3, sc4, sc5, sc6]) rfl ⟨_, rfl, KK, ⟨_, _, _, _, _, _, _, _, _, _, _, _, _, rfl⟩, i1, er1, HH.out.put P2.out.at_ (P2.out.blk.kept k9 (by omega)) KK, PS1.out.map _ ?_⟩
  rintro x1 h1
  exact ⟨_, rfl, _, _, _, none, 0, 0, none, 0, 0, rfl, elsg_blk (cs := [.int .i64 op1, .int .i64 N1, .string nm1, .slice B1 l1 q1]) (B2.out.kept TB.out (fun e => by omega)) rfl (by omega) ((h1.kept QE_kept (by omega) TA.out (fun k _ hk e => by omega)).cells (cs := [.int .i64 op1, .int .i64 N1, .string nm1, .slice B1 l1 q1])), ElsG.none_ _ _ _ _ _ _, ElsG.none_ _ _ _ _ _ _⟩
set_option maxHeartbeats 4000000 in
set_option maxRecDepth 100000 in
theorem stmt_rest (g c : Nat) (A : Option Addr) (m : Nat → Nat) (ts : List Tk) (d : Nat) (dp : Int) (hd : dp + ((d + 1 : Nat) : Int) = 16) (h0 : 0 ≤ dp) (i : Nat) (w : World) (h : Par w g A c m ts i dp 0) (t : Tk) (ht : ts[i]? = some t) (hk : t.kind = 3) (hx : t.text = [114, 101, 115, 116]) :
    Calls Tryz.prog 92 #[.pointer (some ⟨g, 0, none⟩)] w (StepTo w g c A m ts dp (stmtD (d + 1) (ts.drop i)) (IsEl (QS (d + 1)) w.heap.size) ShSt) := by
  have f0 : Below w.heap.size w (w.alloc (.cells #[.int .i64 0, .string ⟨#[]⟩, .slice none 0 0, .int .i64 0, .int .i64 0, .slice none 0 0, .slice none 0 0] 95)) := (Below.refl _ w).al _
  have x0 := Blk.new w 95 #[.int .i64 0, .string ⟨#[]⟩, .slice none 0 0, .int .i64 0, .int .i64 0, .slice none 0 0, .slice none 0 0]
  have hgl := h.blk.lt
  have HH := Lib.hid h
  have PB0 := Lib.hid (h.below f0)
  have XB0 := Lib.hid x0
  have z0 : (w.alloc (.cells #[.int .i64 0, .string ⟨#[]⟩, .slice none 0 0, .int .i64 0, .int .i64 0, .slice none 0 0, .slice none 0 0] 95)).heap.size = w.heap.size + 1 := by simp
  have KB0 := Lib.hid (Kept.of_below (S := fun z => z = g) f0)
  have hdd : dp < 16 := by omega
  have N1 : Hid (∀ w', Par w' g A c m ts i dp 0 → Calls Tryz.prog 53 #[.pointer (some ⟨g, 0, none⟩), .int .i64 1] w' (Still w' (.bool false))) := fun w' h' => by
    have := next_any g c A m ts i dp 0 1 w' h' t ht
    rwa [show nextB t 0 1 = false from by simp [nextB, hk]] at this
  have TK : Hid (∀ w', Par w' g A c m ts i dp 0 → Calls Tryz.prog 87 #[.pointer (some ⟨g, 0, none⟩), .int .i64 3] w' (ParTo w' g c A m ts dp (tkVal t) (i + 1) 0)) := fun w' h' => by
    have := take_any g c A m ts i dp 0 3 w' h' t ht (by decide)
    rwa [show nextB t 0 3 = true from by simp [nextB, hk]] at this
  have EX := Lib.hid (fun i er w h => exprP_any g c A m ts i dp er w h)
  have GO : stmtD (d + 1) (ts.drop i) = stP restP ts (i + 1) 0 := by
    rw [drop_tok ht, stmt_word d t _ hk, hx]
    rw [if_neg (by decide)]
    rw [if_neg (by decide)]
    rw [if_neg (by decide)]
    rw [if_neg (by decide)]
    rw [if_neg (by decide)]
    rw [if_neg (by decide)]
    rw [if_neg (by decide)]
    unfold stP
    rw [if_pos rfl]
  rw [GO, rest_st]
  have e0 : ((str t.text).toList == [105, 102]) = false := (str_eqL _ _).trans (by rw [hx]; decide)
  have e1 : ((str t.text).toList == [102, 111, 114]) = false := (str_eqL _ _).trans (by rw [hx]; decide)
  have e2 : ((str t.text).toList == [114, 101, 102, 117, 115, 101]) = false := (str_eqL _ _).trans (by rw [hx]; decide)
  have e3 : ((str t.text).toList == [114, 111, 108, 108]) = false := (str_eqL _ _).trans (by rw [hx]; decide)
  have e4 : ((str t.text).toList == [115, 101, 97, 116]) = false := (str_eqL _ _).trans (by rw [hx]; decide)
  have e5 : ((str t.text).toList == [111, 118, 101, 114]) = false := (str_eqL _ _).trans (by rw [hx]; decide)
  have e6 : ((str t.text).toList == [112, 97, 121]) = false := (str_eqL _ _).trans (by rw [hx]; decide)
  clear h f0 x0 GO ht hk hx
  go_enter Tryz.func92, Tryz.ntmps92
  go_upto_region 1 with fail
  generalize w.alloc (.cells #[.int .i64 0, .string ⟨#[]⟩, .slice none 0 0, .int .i64 0, .int .i64 0, .slice none 0 0, .slice none 0 0] 95) = WB at *
  have bp := PB0.out.blk
  unfold parCells at bp
  have c2 : WB.cell? ⟨g, 2, none⟩ = some (.int .i64 dp) := bp.cell 2
  clear bp
  go_wp2_with fail
  refine (N1.out _ PB0.out).mono ?_
  rintro e wq ⟨rfl, q, rfl⟩
  have P0' := Lib.hid (PB0.out.drewN q)
  have X0' := Lib.hid (XB0.out.drewN q)
  have K0' := Lib.hid (KB0.out.drewN q)
  have zq : (WB.drewN q).heap.size = WB.heap.size := rfl
  clear PB0 XB0 KB0 c2
  generalize WB.drewN q = WC at *
  go_wp2_with fail
  refine (TK.out _ P0'.out).mono ?_
  rintro e W0 ⟨rfl, pt, kt⟩
  have P0 := Lib.hid pt
  have X0 := Lib.hid (X0'.out.kept kt (by omega))
  have K0 := Lib.hid (K0'.out.then_ kt (fun _ _ e => e))
  have zt := kt.size
  clear pt kt P0' X0' K0' N1 TK
  go_wp2_with fail
  rw [run_fieldTk1]
  go_wp2_with fail
  refine (EX.out (i + 1) 0 W0 P0.out).mono ?_
  rintro e w1 ⟨v1, rfl, k1, ⟨op1, N1, nm1, B1, l1, q1, rfl⟩, i1, er1, p1, ps1⟩
  have z1 := k1.size
  have X1 := Lib.hid (X0.out.kept k1 (by omega))
  have K1 := Lib.hid (K0.out.then_ k1 (fun _ _ e => e))
  have P1 := Lib.hid p1
  have PS1 := Lib.hid ps1
  have J1 := Lib.hid k1
  clear p1 k1 ps1 K0 P0 X0
  have f2 : Below w1.heap.size w1 (w1.alloc (.cells #[.int .i64 op1, .int .i64 N1, .string nm1, .slice B1 l1 q1] 40)) := (Below.refl _ _).al _
  have B2 := Lib.hid (Blk.new w1 40 #[.int .i64 op1, .int .i64 N1, .string nm1, .slice B1 l1 q1])
  have P2 := Lib.hid (P1.out.below f2)
  have X2 := Lib.hid (X1.out.below f2 X1.out.lt)
  have hx : Blk (w1.alloc (.cells #[.int .i64 op1, .int .i64 N1, .string nm1, .slice B1 l1 q1] 40)) w.heap.size 95 #[.int .i64 0, .string ⟨#[]⟩, .slice none 0 0, .int .i64 0, .int .i64 0, .slice none 0 0, .slice none 0 0] := X2.out
  have K2 := Lib.hid (K1.out.then_ (Kept.of_below (S := fun z => z = g) f2) (fun _ _ e => e))
  have J2 := Lib.hid (Kept.of_below (S := fun z => z = g) f2)
  have z2 : (w1.alloc (.cells #[.int .i64 op1, .int .i64 N1, .string nm1, .slice B1 l1 q1] 40)).heap.size = w1.heap.size + 1 := by simp
  clear f2 K1 P1 X1
  have pc0 : (w1.alloc (.cells #[.int .i64 op1, .int .i64 N1, .string nm1, .slice B1 l1 q1] 40)).cell? ⟨w.heap.size, 0, none⟩ = some (.int .i64 0) := hx.cell 0
  have pc1 : (w1.alloc (.cells #[.int .i64 op1, .int .i64 N1, .string nm1, .slice B1 l1 q1] 40)).cell? ⟨w.heap.size, 1, none⟩ = some (.string ⟨#[]⟩) := hx.cell 1
  have pc2 : (w1.alloc (.cells #[.int .i64 op1, .int .i64 N1, .string nm1, .slice B1 l1 q1] 40)).cell? ⟨w.heap.size, 2, none⟩ = some (.slice none 0 0) := hx.cell 2
  have pc3 : (w1.alloc (.cells #[.int .i64 op1, .int .i64 N1, .string nm1, .slice B1 l1 q1] 40)).cell? ⟨w.heap.size, 3, none⟩ = some (.int .i64 0) := hx.cell 3
  have pc4 : (w1.alloc (.cells #[.int .i64 op1, .int .i64 N1, .string nm1, .slice B1 l1 q1] 40)).cell? ⟨w.heap.size, 4, none⟩ = some (.int .i64 0) := hx.cell 4
  have pc5 : (w1.alloc (.cells #[.int .i64 op1, .int .i64 N1, .string nm1, .slice B1 l1 q1] 40)).cell? ⟨w.heap.size, 5, none⟩ = some (.slice none 0 0) := hx.cell 5
  have pc6 : (w1.alloc (.cells #[.int .i64 op1, .int .i64 N1, .string nm1, .slice B1 l1 q1] 40)).cell? ⟨w.heap.size, 6, none⟩ = some (.slice none 0 0) := hx.cell 6
  have pt0 := hx.frozen 0
  have pt1 := hx.frozen 1
  have pt2 := hx.frozen 2
  have pt3 := hx.frozen 3
  have pt4 := hx.frozen 4
  have pt5 := hx.frozen 5
  have pt6 := hx.frozen 6
  clear hx
  go_wp2_with fail
  clear pc0 pc1 pc2 pc3 pc4 pc5 pc6 pt0 pt1 pt2 pt3 pt4 pt5 pt6
  have hx := X2.out
  have sc0 : (w1.alloc (.cells #[.int .i64 op1, .int .i64 N1, .string nm1, .slice B1 l1 q1] 40)).cell? ⟨w.heap.size, 0, none⟩ = some (.int .i64 0) := hx.cell 0
  have sc1 : (w1.alloc (.cells #[.int .i64 op1, .int .i64 N1, .string nm1, .slice B1 l1 q1] 40)).cell? ⟨w.heap.size, 1, none⟩ = some (.string ⟨#[]⟩) := hx.cell 1
  have sc2 : (w1.alloc (.cells #[.int .i64 op1, .int .i64 N1, .string nm1, .slice B1 l1 q1] 40)).cell? ⟨w.heap.size, 2, none⟩ = some (.slice none 0 0) := hx.cell 2
  have sc3 : (w1.alloc (.cells #[.int .i64 op1, .int .i64 N1, .string nm1, .slice B1 l1 q1] 40)).cell? ⟨w.heap.size, 3, none⟩ = some (.int .i64 0) := hx.cell 3
  have sc4 : (w1.alloc (.cells #[.int .i64 op1, .int .i64 N1, .string nm1, .slice B1 l1 q1] 40)).cell? ⟨w.heap.size, 4, none⟩ = some (.int .i64 0) := hx.cell 4
  have sc5 : (w1.alloc (.cells #[.int .i64 op1, .int .i64 N1, .string nm1, .slice B1 l1 q1] 40)).cell? ⟨w.heap.size, 5, none⟩ = some (.slice none 0 0) := hx.cell 5
  have sc6 : (w1.alloc (.cells #[.int .i64 op1, .int .i64 N1, .string nm1, .slice B1 l1 q1] 40)).cell? ⟨w.heap.size, 6, none⟩ = some (.slice none 0 0) := hx.cell 6
  have tc0 := hx.frozen 0
  have tc1 := hx.frozen 1
  have tc2 := hx.frozen 2
  have tc3 := hx.frozen 3
  have tc4 := hx.frozen 4
  have tc5 := hx.frozen 5
  have tc6 := hx.frozen 6
  skip
  have X9 := hx.put7 (.int .i64 9) (.string ⟨#[]⟩) (.slice (some ⟨w1.heap.size, 0, none⟩) 1 1) (.int .i64 0) (.int .i64 0) (.slice none 0 0) (.slice none 0 0)
  have k9 := Kept.put7 (w1.alloc (.cells #[.int .i64 op1, .int .i64 N1, .string nm1, .slice B1 l1 q1] 40)) w.heap.size (.int .i64 9) (.string ⟨#[]⟩) (.slice (some ⟨w1.heap.size, 0, none⟩) 1 1) (.int .i64 0) (.int .i64 0) (.slice none 0 0) (.slice none 0 0)
  generalize (((((((w1.alloc (.cells #[.int .i64 op1, .int .i64 N1, .string nm1, .slice B1 l1 q1] 40)).setCell ⟨w.heap.size, 0, none⟩ (.int .i64 9)).setCell ⟨w.heap.size, 1, none⟩ (.string ⟨#[]⟩)).setCell ⟨w.heap.size, 2, none⟩ (.slice (some ⟨w1.heap.size, 0, none⟩) 1 1)).setCell ⟨w.heap.size, 3, none⟩ (.int .i64 0)).setCell ⟨w.heap.size, 4, none⟩ (.int .i64 0)).setCell ⟨w.heap.size, 5, none⟩ (.slice none 0 0)).setCell ⟨w.heap.size, 6, none⟩ (.slice none 0 0) = W9 at *
  clear sc0 sc1 sc2 sc3 sc4 sc5 sc6
  have sc0 : W9.cell? ⟨w.heap.size, 0, none⟩ = some (.int .i64 9) := X9.cell 0
  have sc1 : W9.cell? ⟨w.heap.size, 1, none⟩ = some (.string ⟨#[]⟩) := X9.cell 1
  have sc2 : W9.cell? ⟨w.heap.size, 2, none⟩ = some (.slice (some ⟨w1.heap.size, 0, none⟩) 1 1) := X9.cell 2
  have sc3 : W9.cell? ⟨w.heap.size, 3, none⟩ = some (.int .i64 0) := X9.cell 3
  have sc4 : W9.cell? ⟨w.heap.size, 4, none⟩ = some (.int .i64 0) := X9.cell 4
  have sc5 : W9.cell? ⟨w.heap.size, 5, none⟩ = some (.slice none 0 0) := X9.cell 5
  have sc6 : W9.cell? ⟨w.heap.size, 6, none⟩ = some (.slice none 0 0) := X9.cell 6
  have KK : Kept (fun z => z = g) w W9 := K2.out.then_ k9 (fun z hz e => by omega)
  have TA : Hid (Kept (fun z => z < W0.heap.size ∨ w1.heap.size ≤ z) w1 W9) := ((J2.out.mono (T := (fun z => z < W0.heap.size ∨ w1.heap.size ≤ z)) (fun z hz e => by omega)).then_ (k9.mono (T := (fun z => z < W0.heap.size ∨ w1.heap.size ≤ z)) (fun z hz e => by omega)) (fun _ _ e => e.imp (fun e => e) (fun e => e)))
  have TB : Hid (Kept (fun z => z < w1.heap.size ∨ w1.heap.size + 1 ≤ z) (w1.alloc (.cells #[.int .i64 op1, .int .i64 N1, .string nm1, .slice B1 l1 q1] 40)) W9) := (k9.mono (T := (fun z => z < w1.heap.size ∨ w1.heap.size + 1 ≤ z)) (fun z hz e => by omega))
  refine bodyPost_ret (v := .agg #[.int .i64 9, .string ⟨#[]⟩, .slice (some ⟨w1.heap.size, 0, none⟩) 1 1, .int .i64 0, .int .i64 0, .slice none 0 0, .slice none 0 0]) (by simp [results, Tryz.results92, go_sem, sc0, sc1, sc2, sc3, sc4, sc5, sc6]) rfl ⟨_, rfl, KK, ⟨_, _, _, _, _, _, _, _, _, _, _, _, _, rfl⟩, i1, er1, HH.out.put P2.out.at_ (P2.out.blk.kept k9 (by omega)) KK, PS1.out.map _ ?_⟩
  rintro x1 h1
  exact ⟨_, rfl, _, _, _, none, 0, 0, none, 0, 0, rfl, elsg_blk (cs := [.int .i64 op1, .int .i64 N1, .string nm1, .slice B1 l1 q1]) (B2.out.kept TB.out (fun e => by omega)) rfl (by omega) ((h1.kept QE_kept (by omega) TA.out (fun k _ hk e => by omega)).cells (cs := [.int .i64 op1, .int .i64 N1, .string nm1, .slice B1 l1 q1])), ElsG.none_ _ _ _ _ _ _, ElsG.none_ _ _ _ _ _ _⟩
end Go.Proofs.YtdgekckedchjbaaGreatDoor
