
/-
  syntax.Parse: what it answers. (Printed by wip/tools/gens29.py.) Statements and programs of any shape in memory; parsed ones as such.
-/
import Derived.Test.YtdgekckedchjbaaGreatDoorS28
import Derived.Test.YtdgekckedchjbaaGreatDoorQK
import Derived.Test.YtdgekckedchjbaaGreatDoorQD
namespace Go.Proofs.YtdgekckedchjbaaGreatDoor
open Go.RowKit

/-- What a whole text gives: a program; or where it is wrong, and how. -/
inductive OutP where
  | ok (x : Pg)
  | bad (L C E : Int)
def endP : PS Pg → OutP
  | .bad [] e => .bad 0 0 e
  | .bad (t :: _) e => .bad t.line t.col e
  | .ok x [] => .ok x
  | .ok x (t :: _) => if t.kind = 0 then .ok x else .bad t.line t.col 3
def progO (l : List UInt8) : OutP := match lexS l with
  | .err L C E => .bad L C E
  | .ok ts => endP (progP ts)
/-- The closure that keeps a program in block r. -/
def CloToP (w : World) (g c : Nat) (A : Option Addr) (m : Nat → Nat) (ts : List Tk) (r : Nat) (p : PS Pg) (e : Ending) (w' : World) : Prop :=
  ∃ (nm : ByteArray) (seats : Int) (sil : ByteArray) (A1 : Option Addr) (n1 c1 : Nat) (A2 : Option Addr) (n2 c2 : Nat) (A3 : Option Addr) (n3 c3 : Nat) (A4 : Option Addr) (n4 c4 : Nat) (A5 : Option Addr) (n5 c5 : Nat) (A6 : Option Addr) (n6 c6 : Nat) (A7 : Option Addr) (n7 c7 : Nat) (A8 : Option Addr) (n8 c8 : Nat), e = .returned (.tuple #[]) ∧ Kept (fun z => z = g ∨ z = r) w w' ∧ Blk w' r 48 #[.string nm, .int .i64 seats, .slice A1 n1 c1, .slice A2 n2 c2, .slice A3 n3 c3, .slice A4 n4 c4, .slice A5 n5 c5, .slice A6 n6 c6, .string sil, .slice A7 n7 c7, .slice A8 n8 c8] ∧
    ∃ (i : Nat) (er : Int), i < ts.length ∧ Blk w' g 119 (parCells A ts.length c m i 0 er) ∧ PsAt ts i er p (fun pg => PC (fun k => w.heap.size ≤ k) w' [.string nm, .int .i64 seats, .slice A1 n1 c1, .slice A2 n2 c2, .slice A3 n3 c3, .slice A4 n4 c4, .slice A5 n5 c5, .slice A6 n6 c6, .string sil, .slice A7 n7 c7, .slice A8 n8 c8] pg)
def ReadAtP (b r : Nat) (o : OutP) (L C E : Int) (w' : World) : Prop := match o with
  | .ok x => E = 0 ∧ ∃ (nm : ByteArray) (seats : Int) (sil : ByteArray) (A1 : Option Addr) (n1 c1 : Nat) (A2 : Option Addr) (n2 c2 : Nat) (A3 : Option Addr) (n3 c3 : Nat) (A4 : Option Addr) (n4 c4 : Nat) (A5 : Option Addr) (n5 c5 : Nat) (A6 : Option Addr) (n6 c6 : Nat) (A7 : Option Addr) (n7 c7 : Nat) (A8 : Option Addr) (n8 c8 : Nat), Blk w' r 48 #[.string nm, .int .i64 seats, .slice A1 n1 c1, .slice A2 n2 c2, .slice A3 n3 c3, .slice A4 n4 c4, .slice A5 n5 c5, .slice A6 n6 c6, .string sil, .slice A7 n7 c7, .slice A8 n8 c8] ∧ PC (fun z => b ≤ z) w' [.string nm, .int .i64 seats, .slice A1 n1 c1, .slice A2 n2 c2, .slice A3 n3 c3, .slice A4 n4 c4, .slice A5 n5 c5, .slice A6 n6 c6, .string sil, .slice A7 n7 c7, .slice A8 n8 c8] x
  | .bad L' C' E' => L = L' ∧ C = C' ∧ E = E' ∧ E ≠ 0
def ReadToP (w : World) (r : Nat) (o : OutP) (e : Ending) (w' : World) : Prop :=
  ∃ (L C E : Int), e = .returned (.tuple #[.agg #[.int .i64 L, .int .i64 C], .int .i64 E]) ∧ Kept (fun z => z = r) w w' ∧ ReadAtP w.heap.size r o L C E w'
def ExOutP (b : Nat) (o : OutP) (cs : List Value) (L C E : Int) (w' : World) : Prop := match o with
  | .ok x => E = 0 ∧ L = 0 ∧ C = 0 ∧ PC (fun z => b ≤ z) w' cs x
  | .bad L' C' E' => L = L' ∧ C = C' ∧ E = E' ∧ E ≠ 0 ∧ cs = [.string ⟨#[]⟩, .int .i64 0, .slice none 0 0, .slice none 0 0, .slice none 0 0, .slice none 0 0, .slice none 0 0, .slice none 0 0, .string ⟨#[]⟩, .slice none 0 0, .slice none 0 0]
def ParseTo (w : World) (o : OutP) (e : Ending) (w' : World) : Prop :=
  ∃ (nm : ByteArray) (seats : Int) (sil : ByteArray) (A1 : Option Addr) (n1 c1 : Nat) (A2 : Option Addr) (n2 c2 : Nat) (A3 : Option Addr) (n3 c3 : Nat) (A4 : Option Addr) (n4 c4 : Nat) (A5 : Option Addr) (n5 c5 : Nat) (A6 : Option Addr) (n6 c6 : Nat) (A7 : Option Addr) (n7 c7 : Nat) (A8 : Option Addr) (n8 c8 : Nat) (L C E : Int), e = .returned (.tuple #[.agg #[.string nm, .int .i64 seats, .slice A1 n1 c1, .slice A2 n2 c2, .slice A3 n3 c3, .slice A4 n4 c4, .slice A5 n5 c5, .slice A6 n6 c6, .string sil, .slice A7 n7 c7, .slice A8 n8 c8], .agg #[.int .i64 L, .int .i64 C], .int .i64 E]) ∧ Below w.heap.size w w' ∧
    ExOutP w.heap.size o [.string nm, .int .i64 seats, .slice A1 n1 c1, .slice A2 n2 c2, .slice A3 n3 c3, .slice A4 n4 c4, .slice A5 n5 c5, .slice A6 n6 c6, .string sil, .slice A7 n7 c7, .slice A8 n8 c8] L C E w'
theorem ExOutP.kept {b : Nat} {o : OutP} {cs : List Value} {L C E : Int} {w w' : World} {S : Nat → Prop} (h : ExOutP b o cs L C E w) (hk : Kept S w w') (hs : ∀ k, k < w.heap.size → b ≤ k → ¬ S k) : ExOutP b o cs L C E w' := by
  cases o with
  | ok x => exact ⟨h.1, h.2.1, h.2.2.1, PC_kept _ _ _ w _ _ x hk hs (fun _ _ h => h) h.2.2.2⟩
  | bad L C E => exact h
end Go.Proofs.YtdgekckedchjbaaGreatDoor
namespace Go.Proofs.YtdgekckedchjbaaGreatDoor
open Go.RowKit

mutual
/-- A parsed statement as one of any shape. -/
def St.sx : St → Sx
  | .mk k nm E lo hi L El => .mk k nm (E.map Ex.gx) lo hi (sxs L) (sxs El)
def sxs : List St → List Sx
  | [] => []
  | s :: l => s.sx :: sxs l
end
theorem sxs_map (l : List St) : sxs l = l.map St.sx := by
  induction l with
  | nil => rfl
  | cons s l ih => rw [sxs, List.map_cons, ih]
def Pg.px (p : Pg) : Px := ⟨p.nm, p.seats, p.stakes, p.vars, sxs p.start, sxs p.turn, p.params, sxs p.play, p.silent, sxs p.quiet, sxs p.pays⟩

/-- Its numbers and names fit, at most n deep. -/
def FitG : Nat → Gx → Prop
  | 0, _ => False
  | n + 1, .mk _ N nm l => (-9223372036854775808 ≤ N ∧ N ≤ 9223372036854775807) ∧ nm.size ≤ 140737488355328 ∧ ∀ x ∈ l, FitG n x
theorem FitG.deep : ∀ (n : Nat) (x : Gx), FitG n x → FitG (n + 1) x
  | 0, _, h => h.elim
  | n + 1, .mk _ _ _ _, h => ⟨h.1, h.2.1, fun x hx => FitG.deep n x (h.2.2 x hx)⟩
theorem FitG.deeper {n m : Nat} (hm : n ≤ m) {x : Gx} (h : FitG n x) : FitG m x := by
  obtain ⟨d, rfl⟩ : ∃ d, m = n + d := ⟨m - n, by omega⟩
  induction d with
  | zero => exact h
  | succ d ih => exact FitG.deep _ _ (ih (by omega))
def FitN (n : Int) : Prop := -9223372036854775808 ≤ n ∧ n ≤ 9223372036854775807
def FitV (v : Va) : Prop := v.nm.length ≤ 2513169434843 ∧ FitN v.size ∧ FitN v.lo ∧ FitN v.hi
/-- An expression of any shape in memory. -/
def GA : Cel Gx := fun D w cs g => ∃ n, GC D w 2513169434843 n cs g ∧ FitG n g
theorem GA_kept : QKept GA := fun _ _ _ _ _ cs g hk hs hE ⟨n, h, hf⟩ => ⟨n, GC.kept hk hs hE n cs g h, hf⟩
/-- A statement's seven cells. -/
def XE (D : Nat → Prop) (w : World) : Nat → List Value → Sx → Prop
  | 0, _, _ => False
  | n + 1, cs, .mk kind nm E lo hi L El => ∃ (A1 : Option Addr) (l1 c1 : Nat) (A2 : Option Addr) (l2 c2 : Nat) (A3 : Option Addr) (l3 c3 : Nat),
      cs = [.int .i64 kind, .string (str nm), .slice A1 l1 c1, .int .i64 lo, .int .i64 hi, .slice A2 l2 c2, .slice A3 l3 c3] ∧
      (nm.length ≤ 2513169434843 ∧ FitN lo ∧ FitN hi) ∧ ElsG D w 4 2513169434843 (GA D w) A1 l1 E ∧ ElsG D w 7 2513169434843 (XE D w n) A2 l2 L ∧ ElsG D w 7 2513169434843 (XE D w n) A3 l3 El
def QX (d : Nat) : Cel Sx := fun D w cs s => XE D w d cs s
theorem XE.kept {D E S : Nat → Prop} {w w' : World} (hk : Kept S w w') (hs : ∀ k, k < w.heap.size → D k → ¬ S k) (hE : ∀ k, k < w.heap.size → D k → E k) : ∀ (n : Nat) (cs : List Value) (s : Sx), XE D w n cs s → XE E w' n cs s
  | 0, _, _, h => h
  | n + 1, cs, .mk kind nm El lo hi L Ls, h => by
    obtain ⟨A1, l1, c1, A2, l2, c2, A3, l3, c3, h1, hf, h2, h3, h4⟩ := h
    exact ⟨A1, l1, c1, A2, l2, c2, A3, l3, c3, h1, hf, h2.kept hk hs hE (fun cs x h => GA_kept D E S w w' cs x hk hs hE h), h3.kept hk hs hE (XE.kept hk hs hE n), h4.kept hk hs hE (XE.kept hk hs hE n)⟩
theorem QX_kept (d : Nat) : QKept (QX d) := fun _ _ _ _ _ cs s hk hs hE h => XE.kept hk hs hE d cs s h
/-- Names and numbers of parsed trees fit. -/
def FitE : Ex → Prop
  | .num n => FitN n
  | .nam s => s.length ≤ 2513169434843
  | .idx s e => s.length ≤ 2513169434843 ∧ FitE e
  | .neg e => FitE e
  | .non e => FitE e
  | .bin _ e f => FitE e ∧ FitE f
mutual
def FitS : St → Prop
  | .mk _ nm E lo hi L El => nm.length ≤ 2513169434843 ∧ (∀ e ∈ E, FitE e) ∧ FitN lo ∧ FitN hi ∧ FitSs L ∧ FitSs El
def FitSs : List St → Prop
  | [] => True
  | s :: l => FitS s ∧ FitSs l
end
theorem FitSs_mem : ∀ {l : List St}, FitSs l → ∀ s ∈ l, FitS s
  | [], _, _, hs => by simp at hs
  | a :: l, h, s, hs => by
    rw [FitSs] at h
    rcases List.mem_cons.1 hs with rfl | hs
    · exact h.1
    · exact FitSs_mem h.2 s hs
structure FitP (p : Pg) : Prop where
  nm : p.nm.length ≤ 2513169434843
  silent : p.silent.length ≤ 2513169434843
  seats : FitN p.seats
  stakes : ∀ n ∈ p.stakes, FitN n
  vars : ∀ v ∈ p.vars, FitV v
  params : ∀ v ∈ p.params, FitV v
  start : FitSs p.start
  turn : FitSs p.turn
  play : FitSs p.play
  quiet : FitSs p.quiet
  pays : FitSs p.pays
theorem FitN.zero : FitN 0 := ⟨by decide, by decide⟩
theorem FitE.gx : ∀ (e : Ex), FitE e → FitG e.dep e.gx
  | .num n, h => ⟨h, by decide, fun x hx => by simp at hx⟩
  | .nam s, h => ⟨FitN.zero, by rw [str_size]; exact Nat.le_trans h (by decide), fun x hx => by simp at hx⟩
  | .idx s e, h => ⟨FitN.zero, by rw [str_size]; exact Nat.le_trans h.1 (by decide), fun x hx => by
      obtain rfl := List.mem_singleton.1 hx
      exact FitE.gx e h.2⟩
  | .neg e, h => ⟨FitN.zero, by decide, fun x hx => by
      obtain rfl := List.mem_singleton.1 hx
      exact FitE.gx e h⟩
  | .non e, h => ⟨FitN.zero, by decide, fun x hx => by
      obtain rfl := List.mem_singleton.1 hx
      exact FitE.gx e h⟩
  | .bin _ e f, h => ⟨FitN.zero, by decide, fun x hx => by
      rcases List.mem_cons.1 hx with rfl | hx
      · exact (FitE.gx e h.1).deeper (Nat.le_max_left _ _)
      · obtain rfl := List.mem_singleton.1 hx
        exact (FitE.gx f h.2).deeper (Nat.le_max_right _ _)⟩
theorem QE.ga {D : Nat → Prop} {w : World} {cs : List Value} {x : Ex} (h : QE D w cs x) (hf : FitE x) : GA D w cs x.gx := ⟨_, TE.gc (by omega) _ _ h, FitE.gx x hf⟩
theorem ElsG.mapm {α β : Type} {D : Nat → Prop} {w : World} {s M : Nat} {Q : List Value → α → Prop} {Q' : List Value → β → Prop} {A : Option Addr} {len : Nat} {l : List α} (f : α → β) (h : ElsG D w s M Q A len l) (hq : ∀ cs a, a ∈ l → Q cs a → Q' cs (f a)) : ElsG D w s M Q' A len (l.map f) := by
  obtain ⟨xs, h1, h0, h2, h3, h4⟩ := h
  refine ⟨xs, h1, h0, h2, by rw [List.length_map]; exact h3, fun i hi => ?_⟩
  have hi' : i < l.length := by rw [List.length_map] at hi; exact hi
  rw [List.getElem_map]
  exact hq _ _ (List.getElem_mem hi') (h4 i hi')
theorem SE.xe {D : Nat → Prop} {w : World} : ∀ (n : Nat) (cs : List Value) (s : St), FitS s → SE D w n cs s → XE D w n cs s.sx
  | 0, _, _, _, h => h
  | n + 1, cs, .mk kind nm El lo hi L Ls, hf, h => by
    obtain ⟨A1, l1, c1, A2, l2, c2, A3, l3, c3, h1, h2, h3, h4⟩ := h
    rw [FitS] at hf
    obtain ⟨f1, f2, f3, f4, f5, f6⟩ := hf
    rw [St.sx, sxs_map, sxs_map]
    exact ⟨A1, l1, c1, A2, l2, c2, A3, l3, c3, h1, ⟨f1, f3, f4⟩, h2.mapm Ex.gx (fun _ _ hm h => QE.ga h (f2 _ hm)), h3.mapm St.sx (fun cs a hm => SE.xe n cs a (FitSs_mem f5 a hm)), h4.mapm St.sx (fun cs a hm => SE.xe n cs a (FitSs_mem f6 a hm))⟩
/-- A program's eleven cells. -/
def PX (d : Nat) : Cel Px := fun D w cs p => (p.nm.length ≤ 2513169434843 ∧ p.silent.length ≤ 2513169434843 ∧ FitN p.seats ∧ (∀ n ∈ p.stakes, FitN n) ∧ (∀ v ∈ p.vars, FitV v) ∧ ∀ v ∈ p.params, FitV v) ∧ ∃ v1 v2 v3 v4 v5 v6 v7 v8 : Value, cs = [.string (str p.nm), .int .i64 p.seats, v1, v2, v3, v4, v5, v6, .string (str p.silent), v7, v8] ∧ RowD D 1 QI w p.stakes v1 ∧ RowD D 4 QV w p.vars v2 ∧ RowD D 7 (QX d) w p.start v3 ∧ RowD D 7 (QX d) w p.turn v4 ∧ RowD D 4 QV w p.params v5 ∧ RowD D 7 (QX d) w p.play v6 ∧ RowD D 7 (QX d) w p.quiet v7 ∧ RowD D 7 (QX d) w p.pays v8
theorem PX_kept (d : Nat) : QKept (PX d) := fun D E S w w' cs p hk hs hE h => by
  obtain ⟨hf, v1, v2, v3, v4, v5, v6, v7, v8, h0, h1, h2, h3, h4, h5, h6, h7, h8⟩ := h
  exact ⟨hf, v1, v2, v3, v4, v5, v6, v7, v8, h0, h1.kept QI_kept hk hs hE, h2.kept QV_kept hk hs hE, h3.kept (QX_kept d) hk hs hE, h4.kept (QX_kept d) hk hs hE, h5.kept QV_kept hk hs hE, h6.kept (QX_kept d) hk hs hE, h7.kept (QX_kept d) hk hs hE, h8.kept (QX_kept d) hk hs hE⟩
theorem RowD.xe {D : Nat → Prop} {w : World} {d : Nat} {l : List St} {v : Value} (hf : FitSs l) (h : RowD D 7 (QS d) w l v) : RowD D 7 (QX d) w (sxs l) v := by
  obtain ⟨A, n, c, h1, h2⟩ := h
  exact ⟨A, n, c, h1, by rw [sxs_map]; exact h2.mapm St.sx (fun cs a hm => SE.xe d cs a (FitSs_mem hf a hm))⟩
theorem PC.px {D : Nat → Prop} {w : World} {cs : List Value} {p : Pg} (hf : FitP p) (h : PC D w cs p) : PX 16 D w cs p.px := by
  obtain ⟨v1, v2, v3, v4, v5, v6, v7, v8, h0, h1, h2, h3, h4, h5, h6, h7, h8⟩ := h
  exact ⟨⟨hf.nm, hf.silent, hf.seats, hf.stakes, hf.vars, hf.params⟩, v1, v2, v3, v4, v5, v6, v7, v8, h0, h1, h2, h3.xe hf.start, h4.xe hf.turn, h5, h6.xe hf.play, h7.xe hf.quiet, h8.xe hf.pays⟩
/-- A program's text, if it is read as that program. -/
def PrintIs (p : Px) (t : List UInt8) : Prop := rawP p = some t ∧ t.length ≤ 65536 ∧ ∃ q, progO t = .ok q ∧ q.px = p
theorem PrintIs.one {p : Px} {t u : List UInt8} (h : PrintIs p t) (k : PrintIs p u) : t = u := Option.some.inj (h.1.symm.trans k.1)
end Go.Proofs.YtdgekckedchjbaaGreatDoor
