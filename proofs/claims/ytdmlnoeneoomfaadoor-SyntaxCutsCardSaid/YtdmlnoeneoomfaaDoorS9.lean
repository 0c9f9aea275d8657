
/-
  The parser reads a whole text by a function: an expression.
-/
import Derived.Test.YtdmlnoeneoomfaaDoorS8
import Derived.Test.YtdmlnoeneoomfaaDoorL15
namespace Go.Proofs.YtdmlnoeneoomfaaDoor
open Go.RowKit

/-- What a whole text gives: a tree; or where it is wrong, and how. -/
inductive Out where
  | ok (x : Ex)
  | bad (L C E : Int)
def endO : PR → Out
  | .bad [] e => .bad 0 0 e
  | .bad (t :: _) e => .bad t.line t.col e
  | .ok x [] => .ok x
  | .ok x (t :: _) => if t.kind = 0 then .ok x else .bad t.line t.col 3
def exprO (l : List UInt8) : Out := match lexS l with
  | .err L C E => .bad L C E
  | .ok ts => endO (joinL (plainD 16) 5 ts)
def ReadAt (b r : Nat) (o : Out) (L C E : Int) (w' : World) : Prop := match o with
  | .ok x => E = 0 ∧ ∃ (op N : Int) (nm : ByteArray) (B : Option Addr) (l k : Nat), Blk w' r 25 #[.int .i64 op, .int .i64 N, .string nm, .slice B l k] ∧ TE (fun z => b ≤ z) w' x [.int .i64 op, .int .i64 N, .string nm, .slice B l k]
  | .bad L' C' E' => L = L' ∧ C = C' ∧ E = E' ∧ E ≠ 0
def ReadTo (w : World) (r : Nat) (o : Out) (e : Ending) (w' : World) : Prop :=
  ∃ (L C E : Int), e = .returned (.tuple #[.agg #[.int .i64 L, .int .i64 C], .int .i64 E]) ∧ Kept (fun z => z = r) w w' ∧ ReadAt w.heap.size r o L C E w'
theorem Kept.put2 (w : World) (g : Nat) (x0 x1 : Value) : Kept (fun k => k = g) w ((w.setCell ⟨g, 0, none⟩ x0).setCell ⟨g, 1, none⟩ x1) :=
  ((Kept.refl (fun k => k = g) w).setCell (p := ⟨g, 0, none⟩) (fun _ => rfl) _).setCell (p := ⟨g, 1, none⟩) (fun _ => rfl) _
theorem Blk.put2 {w : World} {g : Nat} {t : TypeId} {a b : Value} (h : Blk w g t #[a, b]) (x0 x1 : Value) : Blk ((w.setCell ⟨g, 0, none⟩ x0).setCell ⟨g, 1, none⟩ x1) g t #[x0, x1] := (h.set_ 0 x0).set_ 1 x1
theorem ParS.kept' {w w' : World} {g : Nat} {A : Option Addr} {m : Nat → Nat} {ts : List Tk} {S : Nat → Prop} (h : ParS w g A m ts) (hk : Kept S w w') (ha : ∀ a, A = some a → ¬ S a.block) (hm : ∀ k, k < 5 → ¬ S (m k)) : ParS w' g A m ts :=
  ⟨h.rd.keptfar hk ha, h.far, fun k hk' => (h.dict k hk').kept hk (hm k hk'), h.mfar, h.lim, h.ends⟩
/-- The error behind the whole. -/
def endE (t : Tk) (er : Int) : Int := if nextB t er 0 then er else wrongE t er
theorem endO_bad {t : Tk} {r : List Tk} {e : Int} (he : e ≠ 0) : endO (.bad (t :: r) e) = .bad t.line t.col (endE t e) ∧ endE t e ≠ 0 := by
  have : endE t e = e := by simp [endE, nextB, wrongE, he]
  rw [this]
  exact ⟨rfl, he⟩
theorem endO_ok {x : Ex} {t : Tk} {r : List Tk} : (endO (.ok x (t :: r)) = .ok x ∧ endE t 0 = 0) ∨ (endO (.ok x (t :: r)) = .bad t.line t.col (endE t 0) ∧ endE t 0 ≠ 0) := by
  by_cases h : t.kind = 0
  · exact .inl ⟨by simp [endO, h], by simp [endE, nextB, h]⟩
  · have : endE t 0 = 3 := by simp [endE, nextB, wrongE, h]
    rw [this]
    exact .inr ⟨by simp [endO, h], by decide⟩
set_option maxHeartbeats 4000000 in
set_option maxRecDepth 100000 in
theorem read_any (s : ByteArray) (r : Nat) (w : World) (hT : Spaces w) (hs : s.size ≤ 65536) (hb : Blk w r 25 #[.int .i64 0, .int .i64 0, .string ⟨#[]⟩, .slice none 0 0]) :
    Calls Tryd.prog 21 #[.string s, .func (.func 22) #[] #[.pointer (some ⟨r, 0, none⟩)]] w (ReadTo w r (exprO s.data.toList)) := by
  have f0 : Below w.heap.size w (w.alloc (.cells #[.int .i64 0, .int .i64 0] 27)) := (Below.refl _ w).al _
  have x0 := Blk.new w 27 #[.int .i64 0, .int .i64 0]
  have TK := Lib.hid (tokens_any s _ (hT.below f0) hs)
  have HB := Lib.hid (hb.below f0 hb.lt)
  have hrl := hb.lt
  have F0 := Lib.hid f0
  have X0 := Lib.hid x0
  have z0 : (w.alloc (.cells #[.int .i64 0, .int .i64 0] 27)).heap.size = w.heap.size + 1 := by simp
  have hsz : s.data.toList.length = s.size := by simp
  have HSZ := Lib.hid hsz
  clear hT f0 x0 hb hsz
  go_enter Tryd.func21, Tryd.ntmps21
  go_upto_region 1 with fail
  generalize w.alloc (.cells #[.int .i64 0, .int .i64 0] 27) = W0 at *
  go_wp2_with fail
  refine TK.out.mono ?_
  intro e w1 hp
  obtain ⟨A, n, c, L, C, E, ts, rfl, hn, hot, hb1, hcase⟩ := tok_gen hp
  have x1 := Lib.hid (X0.out.below hb1 (by omega))
  have HB1 := Lib.hid (HB.out.below hb1 (by omega))
  have HOT := Lib.hid hot
  have B1 := Lib.hid hb1
  have HN := Lib.hid hn
  have HC := Lib.hid hcase
  have z1 := hb1.size
  clear TK hp hot hb1 hn hcase X0 HB
  have y1 := Blk.new w1 48 #[.int .i64 L, .int .i64 C]
  have Y1 := Lib.hid y1
  have x2 := Lib.hid (x1.out.alloc (.cells #[.int .i64 L, .int .i64 C] 48))
  by_cases hE : E = 0
  · subst hE
    obtain ⟨hlx, -⟩ := HC.out.resolve_right (fun h => (lexS_err h.1).1 rfl)
    have HLX := Lib.hid hlx
    clear HC
    go_upto_region 4 with fail
    have B2 := Lib.hid (B1.out.al (.cells #[.int .i64 L, .int .i64 C] 48))
    have J2 := Lib.hid (joins_any (w1.alloc (.cells #[.int .i64 L, .int .i64 C] 48)))
    have k12 := (Kept.refl (fun _ => False) w1).alloc (.cells #[.int .i64 L, .int .i64 C] 48)
    generalize w1.alloc (.cells #[.int .i64 L, .int .i64 C] 48) = W2 at *
    go_wp2_with fail
    refine J2.out.mono ?_
    rintro e w2 ⟨m, rfl, hb2, hd⟩
    have K12 := Lib.hid (k12.then_ (Kept.of_below (S := fun _ => False) hb2) (fun _ _ h => h))
    have z12 := K12.out.size
    have x22 := x2.out.below hb2 x2.out.lt
    have hlt2 : w.heap.size < w2.heap.size := x22.lt
    obtain ⟨us, LE, CE, hts, hul⟩ := lexS_ok HLX.out
    have hlen : 0 < ts.length := by rw [hts]; simp
    have hlim : ts.length ≤ 70000 := by rw [hts]; simp; have := HSZ.out; omega
    obtain ⟨g', hA, hg1, hg2, -, -, -, -⟩ := HOT.out.addr (by rw [HN.out]; exact hlen)
    have HAF : Hid (∀ a, A = some a → a.block = g') := fun a ha => by rw [hA] at ha; cases ha; rfl
    have HM : Hid (∀ k, k < 5 → w.heap.size < m k ∧ m k < w2.heap.size) := fun k hk => ⟨Nat.lt_of_lt_of_le (by have := B2.out.size; have := x2.out.lt; omega) (hd k hk).2, (hd k hk).1.lt⟩
    have P3 : Hid (Par (w2.alloc (.cells (parCells A ts.length c m 0 0 0) 103)) w2.heap.size A c m ts 0 0 0) := ⟨
      ⟨Reads.keptfar (HOT.out.reads HN.out |> (HN.out ▸ ·)) (K12.out.alloc _) (fun _ _ h => h), fun a ha => by rw [HAF.out a ha]; omega, fun k hk => ((hd k hk).1.kept (S := fun _ => False) ((Kept.refl _ w2).alloc _) (fun h => h)), fun k hk => by have := (HM.out k hk).2; omega, hlim, us, LE, CE, hts⟩,
      Blk.new w2 103 _, hlen⟩
    have HB3 := Lib.hid ((HB1.out.kept K12.out (fun h => h)).alloc (.cells (parCells A ts.length c m 0 0 0) 103))
    have X3 := Lib.hid (x22.alloc (.cells (parCells A ts.length c m 0 0 0) 103))
    have KW3 := Lib.hid ((((Kept.of_below (S := fun z => z = r) F0.out).then_ (Kept.of_below (S := fun z => z = r) B1.out) (fun _ _ h => h)).then_ K12.out (fun _ _ h => h.elim)).alloc (.cells (parCells A ts.length c m 0 0 0) 103))
    have z3 : (w2.alloc (.cells (parCells A ts.length c m 0 0 0) 103)).heap.size = w2.heap.size + 1 := by simp
    have hrl2 : r < w2.heap.size := (HB1.out.kept K12.out (fun h => h)).lt
    have CL := Lib.hid (clo_any w2.heap.size c A m ts 0 0 r _ _ _ _ _ P3.out HB3.out (by omega))
    have FO : Hid (exprO s.data.toList = endO (joinL (plainD 16) 5 ts)) := by unfold exprO; rw [HLX.out]; rfl
    have HL := Lib.hid hlen
    have HTS := Lib.hid hts
    have hnl := HN.out
    rw [List.drop_zero] at CL
    generalize exprO s.data.toList = oo at *
    generalize joinL (plainD 16) 5 ts = p at *
    clear hb2 hd J2 hts hlen hul k12 x22 hlim hA
    unfold parCells at P3 HB3 X3 KW3 z3 CL
    rw [← hnl] at P3 HB3 X3 KW3 z3 CL
    clear hnl
    go_upto_region 5 with fail
    generalize w2.alloc (.cells #[.slice A n c, .int .i64 (0 : Nat), .int .i64 0, .map (some (m 0)), .map (some (m 1)), .map (some (m 2)), .map (some (m 3)), .map (some (m 4)), .int .i64 0] 103) = W3 at *
    go_wp2_with fail
    refine CL.out.mono ?_
    rintro e w4 ⟨op, N, nm, B, l, k, rfl, k4, bb4, h4⟩
    obtain ⟨i', er', hi', hb', hp'⟩ := h4
    have P4 : Hid (Par w4 w2.heap.size A c m ts i' 0 er') := ⟨P3.out.st.kept' k4 (fun a ha e => by have h1 := HAF.out a ha; rcases e with e | e <;> omega) (fun q hq e => by have h1 := HM.out q hq; rcases e with e | e <;> omega), hb', hi'⟩
    have X4 := Lib.hid (X3.out.kept k4 (fun e => by rcases e with e | e <;> omega))
    have KW4 := Lib.hid (KW3.out.then_ k4 (fun z hz e => by rcases e with e | e <;> omega))
    have z4 := k4.size
    obtain ⟨t', ht'⟩ := ParS.at_some hi'
    have NX := Lib.hid (next_any w2.heap.size c A m ts i' 0 er' 0 w4 P4.out t' ht')
    have WR := Lib.hid (fun w' h' => wrong_any w2.heap.size c A m ts i' 0 er' w' h' t' ht')
    have FINO : Hid (∀ W, Kept (fun z => z = w2.heap.size ∨ z = w.heap.size) w4 W → ReadAt w.heap.size r oo t'.line t'.col (endE t' er') W) := by
      intro W hW
      rw [FO.out]
      cases p with
      | ok x r' =>
        obtain ⟨rfl, rfl, hT⟩ := hp'
        rw [drop_tok ht']
        rcases endO_ok (x := x) (t := t') (r := ts.drop (i' + 1)) with ⟨h1, h2⟩ | ⟨h1, h2⟩
        · rw [h1]
          exact ⟨h2, op, N, nm, B, l, k, bb4.kept hW (fun e => by rcases e with e | e <;> omega), (hT.kept_lt hW (fun z _ hz e => by rcases e with e | e <;> omega)).mono (fun z _ hz => by omega)⟩
        · rw [h1]
          exact ⟨rfl, rfl, rfl, h2⟩
      | bad r' e =>
        obtain ⟨rfl, rfl, hne⟩ := hp'
        rw [drop_tok ht']
        obtain ⟨h1, h2⟩ := endO_bad (t := t') (r := ts.drop (i' + 1)) hne
        rw [h1]
        exact ⟨rfl, rfl, rfl, h2⟩
    have HTT := Lib.hid ht'
    have HEE : Hid (endE t' er' = if nextB t' er' 0 then er' else wrongE t' er') := rfl
    clear CL k4 bb4 hb' hi' hp' ht' P3 HB3 X3 KW3
    generalize endE t' er' = ee at *
    generalize nextB t' er' 0 = b at *
    cases b
    · rw [if_neg (by decide)] at HEE
      have HEE' := HEE.out
      rw [← HEE'] at WR
      clear HEE HEE'
      go_wp2_with fail
      refine NX.out.mono ?_
      rintro e w5 ⟨rfl, q, rfl⟩
      have k5 := ((Kept.refl (fun z => z = w2.heap.size) w4).drewN q)
      have P5' := P4.out.drewN q
      have X5' := X4.out.drewN q
      go_wp2_with fail
      refine (WR.out _ P5').mono ?_
      rintro e W5 ⟨rfl, p5, k5'⟩
      have P5 := Lib.hid p5
      have X5 := Lib.hid (X5'.kept k5' (by omega))
      have KW5 := Lib.hid ((KW4.out.drewN q).then_ k5' (fun z hz e => by omega))
      have KW45 := Lib.hid ((k5.then_ k5' (fun _ _ e => e)).mono (T := fun z => z = w2.heap.size ∨ z = w.heap.size) (fun _ _ e => .inl e))
      clear p5 k5 k5' P5' X5' NX WR
      go_upto_region 8 with fail
      obtain ⟨b, o, hA5, hbb, hbg, -, -, -, q3, q4⟩ := P5.out.st.tok HTT.out
      have bp := P5.out.blk
      have hin := P5.out.at_
      unfold parCells at bp
      rw [hA5] at bp
      obtain ⟨n5, hn5⟩ : ∃ q, ts.length = q := ⟨_, rfl⟩
      rw [hn5] at bp hin
      have c0 : W5.cell? ⟨w2.heap.size, 0, none⟩ = some (.slice (some ⟨b, o, none⟩) n5 c) := bp.cell 0
      have c1 : W5.cell? ⟨w2.heap.size, 1, none⟩ = some (.int .i64 i') := bp.cell 1
      have c8 : W5.cell? ⟨w2.heap.size, 8, none⟩ = some (.int .i64 ee) := bp.cell 8
      have x5 := X5.out
      have s0 : W5.cell? ⟨w.heap.size, 0, none⟩ = some (.int .i64 0) := x5.cell 0
      have s1 : W5.cell? ⟨w.heap.size, 1, none⟩ = some (.int .i64 0) := x5.cell 1
      have t0 := x5.frozen 0
      have t1 := x5.frozen 1
      have g1 : (0 : Int) ≤ (i' : Int) := by omega
      have g2 : (i' : Int) < (n5 : Int) := by omega
      clear hA5 bp hn5
      go_region
      go_wp2_with fail
      clear s0 s1
      have X9 := x5.put2 (.int .i64 t'.line) (.int .i64 t'.col)
      have K9 := Kept.put2 W5 w.heap.size (.int .i64 t'.line) (.int .i64 t'.col)
      generalize (W5.setCell ⟨w.heap.size, 0, none⟩ (.int .i64 t'.line)).setCell ⟨w.heap.size, 1, none⟩ (.int .i64 t'.col) = W9 at *
      have s0 : W9.cell? ⟨w.heap.size, 0, none⟩ = some (.int .i64 t'.line) := X9.cell 0
      have s1 : W9.cell? ⟨w.heap.size, 1, none⟩ = some (.int .i64 t'.col) := X9.cell 1
      refine bodyPost_ret (v := .tuple #[.agg #[.int .i64 t'.line, .int .i64 t'.col], .int .i64 ee]) (by simp [results, Tryd.results21, go_sem, s0, s1]) rfl ⟨_, _, _, rfl, (KW5.out.then_ K9 (fun z hz e => by omega)).drew, ?_⟩
      refine FINO.out W9.drew ((KW45.out.then_ K9 (fun _ _ e => .inr e)).drew)
    · rw [if_pos rfl] at HEE
      have HEE' := HEE.out
      subst HEE'
      clear HEE
      go_wp2_with fail
      refine NX.out.mono ?_
      rintro e w5 ⟨rfl, q, rfl⟩
      have P5 := Lib.hid (P4.out.drewN q)
      have X5 := Lib.hid (X4.out.drewN q)
      have KW5 := Lib.hid (KW4.out.drewN q)
      have KW45 := Lib.hid ((Kept.refl (fun z => z = w2.heap.size ∨ z = w.heap.size) w4).drewN q)
      clear NX WR
      generalize w4.drewN q = W5 at *
      go_upto_region 8 with fail
      obtain ⟨b, o, hA5, hbb, hbg, -, -, -, q3, q4⟩ := P5.out.st.tok HTT.out
      have bp := P5.out.blk
      have hin := P5.out.at_
      unfold parCells at bp
      rw [hA5] at bp
      obtain ⟨n5, hn5⟩ : ∃ q, ts.length = q := ⟨_, rfl⟩
      rw [hn5] at bp hin
      have c0 : W5.cell? ⟨w2.heap.size, 0, none⟩ = some (.slice (some ⟨b, o, none⟩) n5 c) := bp.cell 0
      have c1 : W5.cell? ⟨w2.heap.size, 1, none⟩ = some (.int .i64 i') := bp.cell 1
      have c8 : W5.cell? ⟨w2.heap.size, 8, none⟩ = some (.int .i64 ee) := bp.cell 8
      have x5 := X5.out
      have s0 : W5.cell? ⟨w.heap.size, 0, none⟩ = some (.int .i64 0) := x5.cell 0
      have s1 : W5.cell? ⟨w.heap.size, 1, none⟩ = some (.int .i64 0) := x5.cell 1
      have t0 := x5.frozen 0
      have t1 := x5.frozen 1
      have g1 : (0 : Int) ≤ (i' : Int) := by omega
      have g2 : (i' : Int) < (n5 : Int) := by omega
      clear hA5 bp hn5
      go_region
      go_wp2_with fail
      clear s0 s1
      have X9 := x5.put2 (.int .i64 t'.line) (.int .i64 t'.col)
      have K9 := Kept.put2 W5 w.heap.size (.int .i64 t'.line) (.int .i64 t'.col)
      generalize (W5.setCell ⟨w.heap.size, 0, none⟩ (.int .i64 t'.line)).setCell ⟨w.heap.size, 1, none⟩ (.int .i64 t'.col) = W9 at *
      have s0 : W9.cell? ⟨w.heap.size, 0, none⟩ = some (.int .i64 t'.line) := X9.cell 0
      have s1 : W9.cell? ⟨w.heap.size, 1, none⟩ = some (.int .i64 t'.col) := X9.cell 1
      refine bodyPost_ret (v := .tuple #[.agg #[.int .i64 t'.line, .int .i64 t'.col], .int .i64 ee]) (by simp [results, Tryd.results21, go_sem, s0, s1]) rfl ⟨_, _, _, rfl, (KW5.out.then_ K9 (fun z hz e => by omega)).drew, ?_⟩
      refine FINO.out W9.drew ((KW45.out.then_ K9 (fun _ _ e => .inr e)).drew)
  · have hce := HC.out.resolve_left (fun h => hE h.2)
    have HLX := Lib.hid hce.1
    have hE' : (E == 0) = false := by simp [hE]
    have x22 := x2.out
    have s0 : (w1.alloc (.cells #[.int .i64 L, .int .i64 C] 48)).cell? ⟨w.heap.size, 0, none⟩ = some (.int .i64 0) := x22.cell 0
    have s1 : (w1.alloc (.cells #[.int .i64 L, .int .i64 C] 48)).cell? ⟨w.heap.size, 1, none⟩ = some (.int .i64 0) := x22.cell 1
    have t0 := x22.frozen 0
    have t1 := x22.frozen 1
    have v0 : (w1.alloc (.cells #[.int .i64 L, .int .i64 C] 48)).cell? ⟨w1.heap.size, 0, none⟩ = some (.int .i64 L) := y1.cell 0
    have v1 : (w1.alloc (.cells #[.int .i64 L, .int .i64 C] 48)).cell? ⟨w1.heap.size, 1, none⟩ = some (.int .i64 C) := y1.cell 1
    have KK := Lib.hid (((Kept.of_below (S := fun z => z = r) F0.out).then_ (Kept.of_below (S := fun z => z = r) B1.out) (fun _ _ h => h)).alloc (.cells #[.int .i64 L, .int .i64 C] 48))
    clear HC hce y1 Y1
    go_wp2_with fail
    clear s0 s1 v0 v1
    have X9 := x22.put2 (.int .i64 L) (.int .i64 C)
    have K9 := Kept.put2 (w1.alloc (.cells #[.int .i64 L, .int .i64 C] 48)) w.heap.size (.int .i64 L) (.int .i64 C)
    generalize ((w1.alloc (.cells #[.int .i64 L, .int .i64 C] 48)).setCell ⟨w.heap.size, 0, none⟩ (.int .i64 L)).setCell ⟨w.heap.size, 1, none⟩ (.int .i64 C) = W9 at *
    have s0 : W9.cell? ⟨w.heap.size, 0, none⟩ = some (.int .i64 L) := X9.cell 0
    have s1 : W9.cell? ⟨w.heap.size, 1, none⟩ = some (.int .i64 C) := X9.cell 1
    refine bodyPost_ret (v := .tuple #[.agg #[.int .i64 L, .int .i64 C], .int .i64 E]) (by simp [results, Tryd.results21, go_sem, s0, s1]) rfl ⟨_, _, _, rfl, KK.out.then_ K9 (fun z hz e => by omega), ?_⟩
    unfold exprO
    rw [HLX.out]
    exact ⟨rfl, rfl, rfl, hE⟩
end Go.Proofs.YtdmlnoeneoomfaaDoor
