
/-
  The parser: opens, wrong, skip, must, take.
-/
import Derived.Test.YtdmlnoeneoomfaaDoorS2
namespace Go.Proofs.YtdmlnoeneoomfaaDoor
open Go.RowKit

section
variable {w w' : World} {g c : Nat} {A : Option Addr} {m : Nat → Nat} {ts : List Tk} {i : Nat} {dp er : Int}
theorem ParS.more (h : ParS w g A m ts) {t : Tk} (ht : ts[i]? = some t) (hk : t.kind ≠ 0 ∨ t.text ≠ []) : i + 1 < ts.length := by
  obtain ⟨us, L, C, e⟩ := h.ends
  obtain ⟨hi, rfl⟩ := List.getElem?_eq_some_iff.1 ht
  rcases Nat.lt_or_ge (i + 1) ts.length with h1 | h1
  · exact h1
  · exfalso
    subst e
    rw [List.length_append, List.length_singleton] at hi h1
    have h2 : i = us.length := by omega
    subst h2
    simp at hk
theorem ParS.at_some (h : i < ts.length) : ∃ t, ts[i]? = some t := ⟨_, List.getElem?_eq_getElem h⟩
theorem Par.put (h : Par w g A c m ts i dp er) {i' : Nat} {er' : Int} (hi : i' < ts.length) (hb : Blk w' g 103 (parCells A ts.length c m i' dp er')) (hk : Kept (fun z => z = g) w w') : Par w' g A c m ts i' dp er' :=
  ⟨h.st.kept hk (fun _ _ e => e), hb, hi⟩
end

def openB (t : Tk) (er : Int) : Bool := nextB t er 2 || nextB t er 1 || hasB t er [40] || hasB t er [45] || hasB t er [110, 111, 116]
theorem openB_T {t : Tk} {r : List Tk} : openB t 0 = openT (t :: r) := by
  unfold openB openT
  rw [hasB_T (r := r), hasB_T (r := r), hasB_T (r := r)]
  simp only [nextB, beq_self_eq_true, Bool.true_and]
  rfl
set_option maxHeartbeats 1000000 in
set_option maxRecDepth 100000 in
theorem opens_any (g c : Nat) (A : Option Addr) (m : Nat → Nat) (ts : List Tk) (i : Nat) (dp er : Int) (w : World) (h : Par w g A c m ts i dp er) (t : Tk) (ht : ts[i]? = some t) :
    Calls Tryd.prog 86 #[.pointer (some ⟨g, 0, none⟩)] w (Still w (.bool (openB t er))) := by
  have N2 := Lib.hid (next_any g c A m ts i dp er 2 w h t ht)
  have N1 := Lib.hid (fun q => Still.in_ (next_any g c A m ts i dp er 1 (w.drewN q) (h.drewN q) t ht))
  have H1 : Hid (∀ q, Calls Tryd.prog 76 #[.pointer (some ⟨g, 0, none⟩), .string ⟨#[40]⟩] (w.drewN q) fun e w'' => e = .returned (.bool (hasB t er [40])) ∧ ∃ q, w'' = w.drewN q) := fun q => Still.in_ (has_any g c A m ts i dp er [40] (w.drewN q) (h.drewN q) t ht)
  have H2 : Hid (∀ q, Calls Tryd.prog 76 #[.pointer (some ⟨g, 0, none⟩), .string ⟨#[45]⟩] (w.drewN q) fun e w'' => e = .returned (.bool (hasB t er [45])) ∧ ∃ q, w'' = w.drewN q) := fun q => Still.in_ (has_any g c A m ts i dp er [45] (w.drewN q) (h.drewN q) t ht)
  have H3 : Hid (∀ q, Calls Tryd.prog 76 #[.pointer (some ⟨g, 0, none⟩), .string ⟨#[110, 111, 116]⟩] (w.drewN q) fun e w'' => e = .returned (.bool (hasB t er [110, 111, 116])) ∧ ∃ q, w'' = w.drewN q) := fun q => Still.in_ (has_any g c A m ts i dp er [110, 111, 116] (w.drewN q) (h.drewN q) t ht)
  have HB : Hid (openB t er = (nextB t er 2 || nextB t er 1 || hasB t er [40] || hasB t er [45] || hasB t er [110, 111, 116])) := rfl
  generalize openB t er = res at *
  generalize nextB t er 2 = b2 at *
  generalize nextB t er 1 = b1 at *
  generalize hasB t er [40] = c1 at *
  generalize hasB t er [45] = c2 at *
  generalize hasB t er [110, 111, 116] = c3 at *
  clear h ht
  go_enter Tryd.func86, Tryd.ntmps86
  go_wp2_with fail
  refine N2.out.mono ?_
  rintro e w1 ⟨rfl, q1, rfl⟩
  cases b2
  · go_wp2_with fail
    refine (N1.out q1).mono ?_
    rintro e w1 ⟨rfl, q2, rfl⟩
    cases b1
    · go_wp2_with fail
      refine (H1.out q2).mono ?_
      rintro e w1 ⟨rfl, q3, rfl⟩
      cases c1
      · go_wp2_with fail
        refine (H2.out q3).mono ?_
        rintro e w1 ⟨rfl, q4, rfl⟩
        cases c2
        · go_wp2_with fail
          refine (H3.out q4).mono ?_
          rintro e w1 ⟨rfl, q5, rfl⟩
          go_wp2_with fail
          go_ret
          exact ⟨by rw [HB.out]; rfl, _, rfl⟩
        · go_wp2_with fail
          go_ret
          exact ⟨by rw [HB.out]; rfl, _, rfl⟩
      · go_wp2_with fail
        go_ret
        exact ⟨by rw [HB.out]; rfl, _, rfl⟩
    · go_wp2_with fail
      go_ret
      exact ⟨by rw [HB.out]; rfl, _, rfl⟩
  · go_wp2_with fail
    go_ret
    exact ⟨by rw [HB.out]; rfl, _, rfl⟩

/-- A step of the parser that gives v: it stands at token i with error er. -/
def ParTo (w : World) (g c : Nat) (A : Option Addr) (m : Nat → Nat) (ts : List Tk) (dp : Int) (v : Value) (i : Nat) (er : Int) (e : Ending) (w' : World) : Prop :=
  e = .returned v ∧ Par w' g A c m ts i dp er ∧ Kept (fun z => z = g) w w'
def wrongE (t : Tk) (er : Int) : Int := if er = 0 then (if t.kind = 0 then 4 else 3) else er
theorem wrongE_T {t : Tk} {r : List Tk} : wrongE t 0 = wrongT (t :: r) := rfl
set_option maxHeartbeats 1000000 in
set_option maxRecDepth 100000 in
theorem wrong_any (g c : Nat) (A : Option Addr) (m : Nat → Nat) (ts : List Tk) (i : Nat) (dp er : Int) (w : World) (h : Par w g A c m ts i dp er) (t : Tk) (ht : ts[i]? = some t) :
    Calls Tryd.prog 47 #[.pointer (some ⟨g, 0, none⟩)] w (ParTo w g c A m ts dp (.tuple #[]) i (wrongE t er)) := by
  obtain ⟨b, o, rfl, hb, hbg, q0, q1, q2, q3, q4⟩ := h.st.tok ht
  have hi := h.at_
  have PP := Lib.hid (fun (er' : Int) (w' : World) hb hk => h.put (w' := w') (i' := i) (er' := er') hi hb hk)
  have B := h.blk
  unfold parCells at B PP
  obtain ⟨n, hn⟩ : ∃ n, ts.length = n := ⟨_, rfl⟩
  rw [hn] at B hi PP
  have HW : Hid (wrongE t er = if er = 0 then (if t.kind = 0 then 4 else 3) else er) := rfl
  have HH := Lib.hid h
  have BB := Lib.hid B
  generalize wrongE t er = res at *
  have c0 : w.cell? ⟨g, 0, none⟩ = some (.slice (some ⟨b, o, none⟩) n c) := B.cell 0
  have c1 : w.cell? ⟨g, 1, none⟩ = some (.int .i64 i) := B.cell 1
  have c8 : w.cell? ⟨g, 8, none⟩ = some (.int .i64 er) := B.cell 8
  have f8 := B.frozen 8
  have g1 : (0 : Int) ≤ (i : Int) := by omega
  have g2 : (i : Int) < (n : Int) := by omega
  clear q1 q2 q3 q4 B h hn ht
  by_cases he : er = 0
  · subst he
    by_cases hk : t.kind = 0
    · have HR : Hid (res = 4) := by rw [Hid, HW.out, if_pos rfl, if_pos hk]
      rw [hk] at q0
      clear HW hk
      go_enter Tryd.func47, Tryd.ntmps47
      go_wp2_with fail
      go_quiet (fail)
      go_wp2_with fail
      go_end0
      exact ⟨rfl, by rw [HR.out]; exact PP.out _ _ ((BB.out.drewN nq).set_ 8 _) (((Kept.refl (fun z => z = g) w).drewN nq).setCell (p := ⟨g, 8, none⟩) (fun _ => rfl) _), ((Kept.refl (fun z => z = g) w).drewN nq).setCell (p := ⟨g, 8, none⟩) (fun _ => rfl) _⟩
    · have HR : Hid (res = 3) := by rw [Hid, HW.out, if_pos rfl, if_neg hk]
      have hk' : (t.kind == 0) = false := by simp [hk]
      clear HW
      go_enter Tryd.func47, Tryd.ntmps47
      go_wp2_with fail
      go_quiet (fail)
      go_wp2_with fail
      go_end0
      exact ⟨rfl, by rw [HR.out]; exact PP.out _ _ ((BB.out.drewN nq).set_ 8 _) (((Kept.refl (fun z => z = g) w).drewN nq).setCell (p := ⟨g, 8, none⟩) (fun _ => rfl) _), ((Kept.refl (fun z => z = g) w).drewN nq).setCell (p := ⟨g, 8, none⟩) (fun _ => rfl) _⟩
  · have HR : Hid (res = er) := by rw [Hid, HW.out, if_neg he]
    have he' : (er == 0) = false := by simp [he]
    clear HW
    go_enter Tryd.func47, Tryd.ntmps47
    go_wp2_with fail
    go_end0
    exact ⟨rfl, by rw [HR.out]; exact HH.out, Kept.refl _ _⟩

set_option maxHeartbeats 1000000 in
set_option maxRecDepth 100000 in
theorem skip_any (g c : Nat) (A : Option Addr) (m : Nat → Nat) (ts : List Tk) (i : Nat) (dp er : Int) (x : List UInt8) (w : World) (h : Par w g A c m ts i dp er) (t : Tk) (ht : ts[i]? = some t) :
    Calls Tryd.prog 74 #[.pointer (some ⟨g, 0, none⟩), .string (str x)] w (ParTo w g c A m ts dp (.bool (hasB t er x)) (if hasB t er x then i + 1 else i) er) := by
  have HX := Lib.hid (has_any g c A m ts i dp er x w h t ht)
  have HM : Hid (hasB t er x = true → i + 1 < ts.length) := fun hb => h.st.more ht (.inl fun h0 => by
    unfold hasB at hb
    rw [h0] at hb
    simp at hb)
  have B := h.blk
  have lim := h.st.lim
  have hi := h.at_
  have HH := Lib.hid h
  generalize hasB t er x = b at *
  have BB := Lib.hid B
  unfold parCells at B
  clear h ht
  cases b
  · go_enter Tryd.func74, Tryd.ntmps74
    go_wp2_with fail
    refine HX.out.mono ?_
    rintro e w1 ⟨rfl, q, rfl⟩
    go_wp2_with fail
    go_ret
    exact ⟨rfl, HH.out.drewN q, (Kept.refl _ w).drewN q⟩
  · have hm := HM.out rfl
    go_enter Tryd.func74, Tryd.ntmps74
    go_wp2_with fail
    refine HX.out.mono ?_
    rintro e w1 ⟨rfl, q, rfl⟩
    have c1 : (w.drewN q).cell? ⟨g, 1, none⟩ = some (.int .i64 i) := B.cell 1
    have f1 : (w.drewN q).frozen? ⟨g, 1, none⟩ = false := B.frozen 1
    go_wp2_with fail
    go_ret
    refine ⟨rfl, HH.out.put hm ?_ (((Kept.refl (fun z => z = g) w).drewN q).setCell (p := ⟨g, 1, none⟩) (fun _ => rfl) _), ((Kept.refl (fun z => z = g) w).drewN q).setCell (p := ⟨g, 1, none⟩) (fun _ => rfl) _⟩
    exact (BB.out.drewN q).set_ 1 _

def mustE (t : Tk) (er : Int) (x : List UInt8) : Int := if hasB t er x then er else wrongE t er
set_option maxHeartbeats 1000000 in
set_option maxRecDepth 100000 in
theorem must_any (g c : Nat) (A : Option Addr) (m : Nat → Nat) (ts : List Tk) (i : Nat) (dp er : Int) (x : List UInt8) (w : World) (h : Par w g A c m ts i dp er) (t : Tk) (ht : ts[i]? = some t) :
    Calls Tryd.prog 56 #[.pointer (some ⟨g, 0, none⟩), .string (str x)] w (ParTo w g c A m ts dp (.tuple #[]) (if hasB t er x then i + 1 else i) (mustE t er x)) := by
  have SK := Lib.hid (skip_any g c A m ts i dp er x w h t ht)
  have WR := Lib.hid (fun w' (h' : Par w' g A c m ts i dp er) => wrong_any g c A m ts i dp er w' h' t ht)
  unfold mustE
  generalize hasB t er x = b at *
  clear h ht
  cases b
  · go_enter Tryd.func56, Tryd.ntmps56
    go_wp2_with fail
    refine SK.out.mono ?_
    rintro e w1 ⟨rfl, p1, k1⟩
    go_wp2_with fail
    refine (WR.out w1 p1).mono ?_
    rintro e w2 ⟨rfl, p2, k2⟩
    go_wp2_with fail
    go_end0
    exact ⟨rfl, p2, k1.then_ k2 (fun _ _ e => e)⟩
  · go_enter Tryd.func56, Tryd.ntmps56
    go_wp2_with fail
    refine SK.out.mono ?_
    rintro e w1 ⟨rfl, p1, k1⟩
    go_wp2_with fail
    go_end0
    exact ⟨rfl, p1, k1⟩

theorem Blk.put5 {w : World} {g : Nat} {t : TypeId} {a b c d e : Value} (h : Blk w g t #[a, b, c, d, e]) (x0 x1 x2 x3 x4 : Value) :
    Blk (((((w.setCell ⟨g, 0, none⟩ x0).setCell ⟨g, 1, none⟩ x1).setCell ⟨g, 2, none⟩ x2).setCell ⟨g, 3, none⟩ x3).setCell ⟨g, 4, none⟩ x4) g t #[x0, x1, x2, x3, x4] := ((((h.set_ 0 x0).set_ 1 x1).set_ 2 x2).set_ 3 x3).set_ 4 x4
theorem Kept.put5 (w : World) (g : Nat) (x0 x1 x2 x3 x4 : Value) : Kept (fun k => k = g) w (((((w.setCell ⟨g, 0, none⟩ x0).setCell ⟨g, 1, none⟩ x1).setCell ⟨g, 2, none⟩ x2).setCell ⟨g, 3, none⟩ x3).setCell ⟨g, 4, none⟩ x4) :=
  (((((Kept.refl (fun k => k = g) w).setCell (p := ⟨g, 0, none⟩) (fun _ => rfl) _).setCell (p := ⟨g, 1, none⟩) (fun _ => rfl) _).setCell (p := ⟨g, 2, none⟩) (fun _ => rfl) _).setCell (p := ⟨g, 3, none⟩) (fun _ => rfl) _).setCell (p := ⟨g, 4, none⟩) (fun _ => rfl) _
def tkVal (t : Tk) : Value := .agg #[.int .i64 t.kind, .string (str t.text), .int .i64 t.n, .int .i64 t.line, .int .i64 t.col]
def noTk : Tk := ⟨0, [], 0, 0, 0⟩
set_option maxHeartbeats 1000000 in
set_option maxRecDepth 100000 in
theorem take_any (g c : Nat) (A : Option Addr) (m : Nat → Nat) (ts : List Tk) (i : Nat) (dp er k : Int) (w : World) (h : Par w g A c m ts i dp er) (t : Tk) (ht : ts[i]? = some t) (hk0 : k ≠ 0) :
    Calls Tryd.prog 75 #[.pointer (some ⟨g, 0, none⟩), .int .i64 k] w (ParTo w g c A m ts dp (tkVal (if nextB t er k then t else noTk)) (if nextB t er k then i + 1 else i) (if nextB t er k then er else wrongE t er)) := by
  have f0 : Below w.heap.size w (w.alloc (.cells #[.int .i64 0, .string ⟨#[]⟩, .int .i64 0, .int .i64 0, .int .i64 0] 87)) := (Below.refl _ w).al _
  have x0 := Blk.new w 87 #[.int .i64 0, .string ⟨#[]⟩, .int .i64 0, .int .i64 0, .int .i64 0]
  have h0 := h.below f0
  have hgl := h.blk.lt
  have HGL := Lib.hid hgl
  have HX := Lib.hid (next_any g c A m ts i dp er k _ h0 t ht)
  have WR := Lib.hid (fun w' (h' : Par w' g A c m ts i dp er) => wrong_any g c A m ts i dp er w' h' t ht)
  have HM : Hid (nextB t er k = true → i + 1 < ts.length) := fun hb => h.st.more ht (.inl fun h0 => by
    unfold nextB at hb
    rw [h0] at hb
    simp at hb
    exact hk0 hb.2.symm)
  have lim := h.st.lim
  have hi := h.at_
  have HH := Lib.hid h0
  have H0 := Lib.hid h
  have F0 := Lib.hid f0
  have X0 := Lib.hid x0
  generalize nextB t er k = b at *
  have z0 := f0.size
  clear h f0 x0
  cases b
  · go_enter Tryd.func75, Tryd.ntmps75
    go_wp2_with fail
    generalize w.alloc (.cells #[.int .i64 0, .string ⟨#[]⟩, .int .i64 0, .int .i64 0, .int .i64 0] 87) = W0 at *
    refine HX.out.mono ?_
    rintro e w1 ⟨rfl, q, rfl⟩
    go_wp2_with fail
    refine (WR.out _ (HH.out.drewN q)).mono ?_
    rintro e w2 ⟨rfl, p2, k2⟩
    have x2 := (X0.out.drewN q).kept k2 (by omega)
    have s0 : w2.cell? ⟨w.heap.size, 0, none⟩ = some (.int .i64 0) := x2.cell 0
    have s1 : w2.cell? ⟨w.heap.size, 1, none⟩ = some (.string ⟨#[]⟩) := x2.cell 1
    have s2 : w2.cell? ⟨w.heap.size, 2, none⟩ = some (.int .i64 0) := x2.cell 2
    have s3 : w2.cell? ⟨w.heap.size, 3, none⟩ = some (.int .i64 0) := x2.cell 3
    have s4 : w2.cell? ⟨w.heap.size, 4, none⟩ = some (.int .i64 0) := x2.cell 4
    have t0 := x2.frozen 0
    have t1 := x2.frozen 1
    have t2 := x2.frozen 2
    have t3 := x2.frozen 3
    have t4 := x2.frozen 4
    have P2 := Lib.hid p2
    have K2 := Lib.hid k2
    clear p2 k2 HX WR HM HH
    go_wp2_with fail
    have X9 := x2.put5 (.int .i64 0) (.string ⟨#[]⟩) (.int .i64 0) (.int .i64 0) (.int .i64 0)
    have K9 := Kept.put5 w2 w.heap.size (.int .i64 0) (.string ⟨#[]⟩) (.int .i64 0) (.int .i64 0) (.int .i64 0)
    generalize ((((w2.setCell ⟨w.heap.size, 0, none⟩ (.int .i64 0)).setCell ⟨w.heap.size, 1, none⟩ (.string ⟨#[]⟩)).setCell ⟨w.heap.size, 2, none⟩ (.int .i64 0)).setCell ⟨w.heap.size, 3, none⟩ (.int .i64 0)).setCell ⟨w.heap.size, 4, none⟩ (.int .i64 0) = W9 at *
    clear s0 s1 s2 s3 s4
    have s0 : W9.cell? ⟨w.heap.size, 0, none⟩ = some (.int .i64 0) := X9.cell 0
    have s1 : W9.cell? ⟨w.heap.size, 1, none⟩ = some (.string ⟨#[]⟩) := X9.cell 1
    have s2 : W9.cell? ⟨w.heap.size, 2, none⟩ = some (.int .i64 0) := X9.cell 2
    have s3 : W9.cell? ⟨w.heap.size, 3, none⟩ = some (.int .i64 0) := X9.cell 3
    have s4 : W9.cell? ⟨w.heap.size, 4, none⟩ = some (.int .i64 0) := X9.cell 4
    have KK : Kept (fun z => z = g) w W9 := (((Kept.of_below (S := fun z => z = g) F0.out).then_ ((Kept.refl (fun z => z = g) W0).drewN q) (fun _ _ e => e)).then_ K2.out (fun _ _ e => e)).then_ K9 (fun z hz e => by omega)
    refine bodyPost_ret (v := tkVal noTk) (by simp [results, Tryd.results75, go_sem, s0, s1, s2, s3, s4, tkVal, noTk, str]) rfl ⟨rfl, ?_, KK⟩
    exact H0.out.put hi (P2.out.blk.kept K9 (by omega)) KK
  · have hm := HM.out rfl
    obtain ⟨b, o, rfl, hb, hbg, q0, q1, q2, q3, q4⟩ := HH.out.st.tok ht
    go_enter Tryd.func75, Tryd.ntmps75
    go_wp2_with fail
    generalize w.alloc (.cells #[.int .i64 0, .string ⟨#[]⟩, .int .i64 0, .int .i64 0, .int .i64 0] 87) = W0 at *
    refine HX.out.mono ?_
    rintro e w1 ⟨rfl, q, rfl⟩
    have B := HH.out.blk
    unfold parCells at B
    obtain ⟨n, hn⟩ : ∃ n, ts.length = n := ⟨_, rfl⟩
    rw [hn] at B hi hm lim
    have c1 : (W0.drewN q).cell? ⟨g, 1, none⟩ = some (.int .i64 i) := B.cell 1
    have f1 : (W0.drewN q).frozen? ⟨g, 1, none⟩ = false := B.frozen 1
    have HNN := Lib.hid hn
    clear HX WR HM hn
    go_upto_region 5 with fail
    have KB := (((Kept.refl (fun z => z = g) W0).drewN q).setCell (p := ⟨g, 1, none⟩) (fun _ => rfl) (.int .i64 ((i : Int) + 1)))
    have B1 : Blk ((W0.drewN q).setCell ⟨g, 1, none⟩ (.int .i64 ((i : Int) + 1))) g 103 #[.slice (some ⟨b, o, none⟩) n c, .int .i64 ((i : Int) + 1), .int .i64 dp, .map (some (m 0)), .map (some (m 1)), .map (some (m 2)), .map (some (m 3)), .map (some (m 4)), .int .i64 er] := (B.drewN q).set_ 1 _
    generalize (W0.drewN q).setCell ⟨g, 1, none⟩ (.int .i64 ((i : Int) + 1)) = W1 at *
    have x2 := X0.out.kept KB (by have := HGL.out; omega)
    have d0 : W1.cell? ⟨g, 0, none⟩ = some (.slice (some ⟨b, o, none⟩) n c) := B1.cell 0
    have d1 : W1.cell? ⟨g, 1, none⟩ = some (.int .i64 ((i : Int) + 1)) := B1.cell 1
    have r0 := (KB.cell (p := ⟨b, o + i * 5, none⟩) hb hbg).trans q0
    have r1 := (KB.cell (p := ⟨b, o + i * 5 + 1, none⟩) hb hbg).trans q1
    have r2 := (KB.cell (p := ⟨b, o + i * 5 + 2, none⟩) hb hbg).trans q2
    have r3 := (KB.cell (p := ⟨b, o + i * 5 + 3, none⟩) hb hbg).trans q3
    have r4 := (KB.cell (p := ⟨b, o + i * 5 + 4, none⟩) hb hbg).trans q4
    have s0 : W1.cell? ⟨w.heap.size, 0, none⟩ = some (.int .i64 0) := x2.cell 0
    have s1 : W1.cell? ⟨w.heap.size, 1, none⟩ = some (.string ⟨#[]⟩) := x2.cell 1
    have s2 : W1.cell? ⟨w.heap.size, 2, none⟩ = some (.int .i64 0) := x2.cell 2
    have s3 : W1.cell? ⟨w.heap.size, 3, none⟩ = some (.int .i64 0) := x2.cell 3
    have s4 : W1.cell? ⟨w.heap.size, 4, none⟩ = some (.int .i64 0) := x2.cell 4
    have t0 := x2.frozen 0
    have t1 := x2.frozen 1
    have t2 := x2.frozen 2
    have t3 := x2.frozen 3
    have t4 := x2.frozen 4
    have g1 : (0 : Int) ≤ (i : Int) := by omega
    have g2 : (i : Int) < (n : Int) := by omega
    have g3 : (i : Int) + 1 - 1 = (i : Int) := by omega
    have g4 : IntKind.i64.wrap ((i : Int) + 1 - 1) = (i : Int) := by rw [g3]; exact IntWalk.i64_in _ ⟨by omega, by omega⟩
    clear q0 q1 q2 q3 q4 c1 f1
    go_region
    go_wp2_with fail
    have X9 := (x2.put5 (.int .i64 t.kind) (.string (str t.text)) (.int .i64 t.n) (.int .i64 t.line) (.int .i64 t.col)).drew
    have K9 := (Kept.put5 W1 w.heap.size (.int .i64 t.kind) (.string (str t.text)) (.int .i64 t.n) (.int .i64 t.line) (.int .i64 t.col)).drew
    generalize (((((W1.setCell ⟨w.heap.size, 0, none⟩ (.int .i64 t.kind)).setCell ⟨w.heap.size, 1, none⟩ (.string (str t.text))).setCell ⟨w.heap.size, 2, none⟩ (.int .i64 t.n)).setCell ⟨w.heap.size, 3, none⟩ (.int .i64 t.line)).setCell ⟨w.heap.size, 4, none⟩ (.int .i64 t.col)).drew = W9 at *
    clear s0 s1 s2 s3 s4
    have s0 : W9.cell? ⟨w.heap.size, 0, none⟩ = some (.int .i64 t.kind) := X9.cell 0
    have s1 : W9.cell? ⟨w.heap.size, 1, none⟩ = some (.string (str t.text)) := X9.cell 1
    have s2 : W9.cell? ⟨w.heap.size, 2, none⟩ = some (.int .i64 t.n) := X9.cell 2
    have s3 : W9.cell? ⟨w.heap.size, 3, none⟩ = some (.int .i64 t.line) := X9.cell 3
    have s4 : W9.cell? ⟨w.heap.size, 4, none⟩ = some (.int .i64 t.col) := X9.cell 4
    have KK : Kept (fun z => z = g) w W9 := ((Kept.of_below (S := fun z => z = g) F0.out).then_ KB (fun _ _ e => e)).then_ K9 (fun z hz e => by omega)
    refine bodyPost_ret (v := tkVal t) (by simp [results, Tryd.results75, go_sem, s0, s1, s2, s3, s4, tkVal]) rfl ⟨rfl, H0.out.put (by rw [HNN.out]; exact hm) ?_ KK, KK⟩
    unfold parCells
    rw [HNN.out]
    exact B1.kept K9 (by omega)
end Go.Proofs.YtdmlnoeneoomfaaDoor
