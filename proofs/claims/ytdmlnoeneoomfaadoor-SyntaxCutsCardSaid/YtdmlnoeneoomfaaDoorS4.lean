
/-
  Trees in memory; what the parser's plain and join give.
-/
import Derived.Test.YtdmlnoeneoomfaaDoorS3
namespace Go.Proofs.YtdmlnoeneoomfaaDoor
open Go.RowKit

/-- A tree's four cells; its parts lie in blocks D. -/
def TE (D : Nat → Prop) (w : World) : Ex → List Value → Prop
  | .num n, cs => cs = [.int .i64 0, .int .i64 n, .string ⟨#[]⟩, .slice none 0 0]
  | .nam s, cs => cs = [.int .i64 1, .int .i64 0, .string (str s), .slice none 0 0]
  | .idx s e, cs => ∃ b c1, cs = [.int .i64 2, .int .i64 0, .string (str s), .slice (some ⟨b, 0, none⟩) 1 1] ∧ D b ∧ Blk w b 25 (List.toArray c1) ∧ TE D w e c1
  | .neg e, cs => ∃ b c1, cs = [.int .i64 3, .int .i64 0, .string ⟨#[]⟩, .slice (some ⟨b, 0, none⟩) 1 1] ∧ D b ∧ Blk w b 25 (List.toArray c1) ∧ TE D w e c1
  | .non e, cs => ∃ b c1, cs = [.int .i64 4, .int .i64 0, .string ⟨#[]⟩, .slice (some ⟨b, 0, none⟩) 1 1] ∧ D b ∧ Blk w b 25 (List.toArray c1) ∧ TE D w e c1
  | .bin op e f, cs => ∃ b c1 c2, cs = [.int .i64 op, .int .i64 0, .string ⟨#[]⟩, .slice (some ⟨b, 0, none⟩) 2 2] ∧ D b ∧ Blk w b 25 (List.toArray (c1 ++ c2)) ∧ TE D w e c1 ∧ TE D w f c2
theorem TE.kept {D S : Nat → Prop} {w w' : World} (hk : Kept S w w') (hs : ∀ k, D k → ¬ S k) : ∀ (e : Ex) (cs : List Value), TE D w e cs → TE D w' e cs
  | .num _, _, h => h
  | .nam _, _, h => h
  | .idx _ e, _, ⟨b, c1, h1, h2, h3, h4⟩ => ⟨b, c1, h1, h2, h3.kept hk (hs b h2), TE.kept hk hs e c1 h4⟩
  | .neg e, _, ⟨b, c1, h1, h2, h3, h4⟩ => ⟨b, c1, h1, h2, h3.kept hk (hs b h2), TE.kept hk hs e c1 h4⟩
  | .non e, _, ⟨b, c1, h1, h2, h3, h4⟩ => ⟨b, c1, h1, h2, h3.kept hk (hs b h2), TE.kept hk hs e c1 h4⟩
  | .bin _ e f, _, ⟨b, c1, c2, h1, h2, h3, h4, h5⟩ => ⟨b, c1, c2, h1, h2, h3.kept hk (hs b h2), TE.kept hk hs e c1 h4, TE.kept hk hs f c2 h5⟩
theorem TE.mono {D E : Nat → Prop} {w : World} (hd : ∀ k, k < w.heap.size → D k → E k) : ∀ (e : Ex) (cs : List Value), TE D w e cs → TE E w e cs
  | .num _, _, h => h
  | .nam _, _, h => h
  | .idx _ e, _, ⟨b, c1, h1, h2, h3, h4⟩ => ⟨b, c1, h1, hd b h3.lt h2, h3, TE.mono hd e c1 h4⟩
  | .neg e, _, ⟨b, c1, h1, h2, h3, h4⟩ => ⟨b, c1, h1, hd b h3.lt h2, h3, TE.mono hd e c1 h4⟩
  | .non e, _, ⟨b, c1, h1, h2, h3, h4⟩ => ⟨b, c1, h1, hd b h3.lt h2, h3, TE.mono hd e c1 h4⟩
  | .bin _ e f, _, ⟨b, c1, c2, h1, h2, h3, h4, h5⟩ => ⟨b, c1, c2, h1, hd b h3.lt h2, h3, TE.mono hd e c1 h4, TE.mono hd f c2 h5⟩
def PR.thenMust (x : List UInt8) (k : Ex → Ex) : PR → PR
  | .bad r e => .bad r e
  | .ok y r => mustT x (k y) r
def PR.wrap (k : Ex → Ex) : PR → PR
  | .bad r e => .bad r e
  | .ok y r => .ok (k y) r
section
variable {d : Nat} {t : Tk} {r : List Tk}
theorem plainD_num (h : openT (t :: r) = true) (hk : t.kind = 2) : plainD (d + 1) (t :: r) = .ok (.num t.n) r := by
  simp only [plainD]
  rw [h, if_neg (by decide), if_pos hk]
theorem plainD_nam (h : openT (t :: r) = true) (hk : t.kind = 1) (hb : hasT [91] r = false) : plainD (d + 1) (t :: r) = .ok (.nam t.text) r := by
  simp only [plainD]
  rw [h, if_neg (by decide), if_neg (by rw [hk]; decide), if_pos hk, hb, if_neg (by decide)]
theorem plainD_idx (h : openT (t :: r) = true) (hk : t.kind = 1) (hb : hasT [91] r = true) : plainD (d + 1) (t :: r) = (joinL (plainD d) 5 r.tail).thenMust [93] (.idx t.text) := by
  simp only [plainD]
  rw [h, if_neg (by decide), if_neg (by rw [hk]; decide), if_pos hk, hb, if_pos rfl]
  cases joinL (plainD d) 5 r.tail <;> rfl
theorem plainD_par (h : openT (t :: r) = true) (h2 : t.kind ≠ 2) (h1 : t.kind ≠ 1) (hx : t.text = [40]) : plainD (d + 1) (t :: r) = (joinL (plainD d) 5 r).thenMust [41] id := by
  simp only [plainD]
  rw [h, if_neg (by decide), if_neg h2, if_neg h1, if_pos hx]
  cases joinL (plainD d) 5 r <;> rfl
theorem plainD_neg (h : openT (t :: r) = true) (h2 : t.kind ≠ 2) (h1 : t.kind ≠ 1) (h0 : t.text ≠ [40]) (hx : t.text = [45]) : plainD (d + 1) (t :: r) = (plainD d r).wrap .neg := by
  simp only [plainD]
  rw [h, if_neg (by decide), if_neg h2, if_neg h1, if_neg h0, if_pos hx]
  cases plainD d r <;> rfl
theorem plainD_non (h : openT (t :: r) = true) (h2 : t.kind ≠ 2) (h1 : t.kind ≠ 1) (h0 : t.text ≠ [40]) (hx : t.text ≠ [45]) : plainD (d + 1) (t :: r) = (plainD d r).wrap .non := by
  simp only [plainD]
  rw [h, if_neg (by decide), if_neg h2, if_neg h1, if_neg h0, if_neg hx]
  cases plainD d r <;> rfl
theorem plainD_deep (h : openT (t :: r) = true) : plainD 0 (t :: r) = .bad (t :: r) 25 := by
  simp only [plainD]
  rw [if_pos h]
end
/-- What a step that reads an expression leaves. -/
def ExAt (base g c : Nat) (A : Option Addr) (m : Nat → Nat) (ts : List Tk) (dp : Int) (cs : List Value) (w' : World) (p : PR) : Prop :=
  ∃ i er, i < ts.length ∧ Blk w' g 103 (parCells A ts.length c m i dp er) ∧ (match p with
    | .ok x r => r = ts.drop i ∧ er = 0 ∧ TE (fun k => base ≤ k) w' x cs
    | .bad r e => r = ts.drop i ∧ e = er ∧ er ≠ 0)
def ExTo (w : World) (g c : Nat) (A : Option Addr) (m : Nat → Nat) (ts : List Tk) (dp : Int) (p : PR) (e : Ending) (w' : World) : Prop :=
  ∃ (op N : Int) (nm : ByteArray) (B : Option Addr) (l k : Nat), e = .returned (.agg #[.int .i64 op, .int .i64 N, .string nm, .slice B l k]) ∧ Kept (fun z => z = g) w w' ∧
    ExAt w.heap.size g c A m ts dp [.int .i64 op, .int .i64 N, .string nm, .slice B l k] w' p
theorem ExAt.kept {base g c : Nat} {A : Option Addr} {m : Nat → Nat} {ts : List Tk} {dp : Int} {cs : List Value} {w w' : World} {p : PR} {S : Nat → Prop} (h : ExAt base g c A m ts dp cs w p) (hk : Kept S w w') (hg : ¬ S g) (hs : ∀ k, base ≤ k → ¬ S k) : ExAt base g c A m ts dp cs w' p := by
  obtain ⟨i, er, hi, hb, hp⟩ := h
  refine ⟨i, er, hi, hb.kept hk hg, ?_⟩
  cases p with
  | ok x r => exact ⟨hp.1, hp.2.1, hp.2.2.kept hk hs⟩
  | bad r e => exact hp
theorem wrongT_ne (r : List Tk) : wrongT r ≠ 0 := by
  cases r with
  | nil => simp [wrongT]
  | cons t r => simp only [wrongT]; split <;> decide
/-- What 'must' makes of it: k is done with the tree. -/
theorem ExAt.must {base base' g c : Nat} {A : Option Addr} {m : Nat → Nat} {ts : List Tk} {dp er : Int} {cs cs' : List Value} {w w' : World} {p : PR} {i : Nat} {t : Tk} {x : List UInt8} (k : Ex → Ex)
    (hp : match p with | .ok y r => r = ts.drop i ∧ er = 0 ∧ TE (fun z => base ≤ z) w y cs | .bad r e => r = ts.drop i ∧ e = er ∧ er ≠ 0) (ht : ts[i]? = some t)
    (hi : (if hasB t er x then i + 1 else i) < ts.length) (hb : Blk w' g 103 (parCells A ts.length c m (if hasB t er x then i + 1 else i) dp (mustE t er x)))
    (hk : ∀ y, TE (fun z => base ≤ z) w y cs → TE (fun z => base' ≤ z) w' (k y) cs') :
    ExAt base' g c A m ts dp cs' w' (p.thenMust x k) := by
  cases p with
  | ok y r =>
    obtain ⟨rfl, rfl, hT⟩ := hp
    have e1 : hasB t 0 x = hasT x (ts.drop i) := by rw [drop_tok ht]; exact hasB_T
    refine ⟨_, _, hi, hb, ?_⟩
    unfold mustE
    dsimp only [PR.thenMust, mustT]
    rw [e1]
    cases hasT x (ts.drop i) with
    | true =>
      rw [if_pos rfl, if_pos rfl, if_pos rfl]
      exact ⟨List.tail_drop .., rfl, hk y hT⟩
    | false =>
      have e2 : wrongE t 0 = wrongT (ts.drop i) := by rw [drop_tok ht]; rfl
      rw [if_neg (by decide), if_neg (by decide), if_neg (by decide), e2]
      exact ⟨rfl, rfl, wrongT_ne _⟩
  | bad r e =>
    obtain ⟨rfl, rfl, hne⟩ := hp
    have e0 : hasB t e x = false := by simp [hasB, hne]
    refine ⟨_, _, hi, hb, ?_⟩
    unfold mustE
    rw [e0]
    refine ⟨rfl, ?_, ?_⟩
    · simp [wrongE, hne]
    · simp [wrongE, hne]
theorem ExAt.wrap {base base' g c : Nat} {A : Option Addr} {m : Nat → Nat} {ts : List Tk} {dp er : Int} {cs cs' : List Value} {w w' : World} {p : PR} {i : Nat} (k : Ex → Ex)
    (hp : match p with | .ok y r => r = ts.drop i ∧ er = 0 ∧ TE (fun z => base ≤ z) w y cs | .bad r e => r = ts.drop i ∧ e = er ∧ er ≠ 0)
    (hi : i < ts.length) (hb : Blk w' g 103 (parCells A ts.length c m i dp er))
    (hk : ∀ y, TE (fun z => base ≤ z) w y cs → TE (fun z => base' ≤ z) w' (k y) cs') :
    ExAt base' g c A m ts dp cs' w' (p.wrap k) := by
  cases p with
  | ok y r => exact ⟨i, er, hi, hb, hp.1, hp.2.1, hk y hp.2.2⟩
  | bad r e => exact ⟨i, er, hi, hb, hp⟩
theorem ExAt.base_le {b b' g c : Nat} {A : Option Addr} {m : Nat → Nat} {ts : List Tk} {dp : Int} {cs : List Value} {w : World} {p : PR} (hb : b' ≤ b) (h : ExAt b g c A m ts dp cs w p) : ExAt b' g c A m ts dp cs w p := by
  obtain ⟨i, er, hi, hbk, hp⟩ := h
  refine ⟨i, er, hi, hbk, ?_⟩
  cases p with
  | ok x r => exact ⟨hp.1, hp.2.1, hp.2.2.mono (fun k _ h => Nat.le_trans hb h)⟩
  | bad r e => exact hp
theorem two_new (w : World) (t1 t2 : TypeId) (a b : Array Value) : Blk ((w.alloc (.cells a t1)).alloc (.cells b t2)) w.heap.size t1 a ∧ Blk ((w.alloc (.cells a t1)).alloc (.cells b t2)) (w.heap.size + 1) t2 b := by
  refine ⟨(Blk.new w t1 a).alloc _, ?_⟩
  have := Blk.new (w.alloc (.cells a t1)) t2 b
  rwa [show (w.alloc (.cells a t1)).heap.size = w.heap.size + 1 from by simp] at this
def PlainC (g c : Nat) (A : Option Addr) (m : Nat → Nat) (ts : List Tk) (dp : Int) (d : Nat) : Prop :=
  ∀ (deep : Int) (i : Nat) (w : World), deep + (d : Int) = 16 → 0 ≤ deep → Par w g A c m ts i dp 0 → Calls Tryd.prog 72 #[.pointer (some ⟨g, 0, none⟩), .int .i64 deep] w (ExTo w g c A m ts dp (plainD d (ts.drop i)))
def JoinC (g c : Nat) (A : Option Addr) (m : Nat → Nat) (ts : List Tk) (dp : Int) (d k : Nat) : Prop :=
  ∀ (deep lv : Int) (i : Nat) (w : World), deep + (d : Int) = 16 → 0 ≤ deep → lv + (k : Int) = 5 → Par w g A c m ts i dp 0 → Calls Tryd.prog 48 #[.pointer (some ⟨g, 0, none⟩), .int .i64 lv, .int .i64 deep] w (ExTo w g c A m ts dp (joinL (plainD d) k (ts.drop i)))
theorem Blk.put4 {w : World} {g : Nat} {t : TypeId} {a b c d : Value} (h : Blk w g t #[a, b, c, d]) (x0 x1 x2 x3 : Value) :
    Blk ((((w.setCell ⟨g, 0, none⟩ x0).setCell ⟨g, 1, none⟩ x1).setCell ⟨g, 2, none⟩ x2).setCell ⟨g, 3, none⟩ x3) g t #[x0, x1, x2, x3] := (((h.set_ 0 x0).set_ 1 x1).set_ 2 x2).set_ 3 x3
theorem Kept.put4 (w : World) (g : Nat) (x0 x1 x2 x3 : Value) : Kept (fun k => k = g) w ((((w.setCell ⟨g, 0, none⟩ x0).setCell ⟨g, 1, none⟩ x1).setCell ⟨g, 2, none⟩ x2).setCell ⟨g, 3, none⟩ x3) :=
  ((((Kept.refl (fun k => k = g) w).setCell (p := ⟨g, 0, none⟩) (fun _ => rfl) _).setCell (p := ⟨g, 1, none⟩) (fun _ => rfl) _).setCell (p := ⟨g, 2, none⟩) (fun _ => rfl) _).setCell (p := ⟨g, 3, none⟩) (fun _ => rfl) _
theorem plainD_shut {d : Nat} {t : Tk} {r : List Tk} (h : openT (t :: r) = false) : plainD d (t :: r) = .bad (t :: r) (wrongT (t :: r)) := by
  cases d <;> simp [plainD, h]
end Go.Proofs.YtdmlnoeneoomfaaDoor
