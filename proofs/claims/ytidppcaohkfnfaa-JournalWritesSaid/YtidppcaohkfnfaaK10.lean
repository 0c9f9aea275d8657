
/-
  Journals: whole: the entry with which bytes begin.
-/
import Derived.Test.YtidppcaohkfnfaaK9
import Derived.Test.YtidppcaohkfnfaaKParse
import Derived.Test.YtidppcaohkfnfaaArr
import Derived.Laws.Cover3
namespace Go.Proofs.Ytidppcaohkfnfaa
open Go.RowKit

theorem num_st (lo g at_ err most v a' e' : Nat) (y : Int) (hy : y = (most : Int)) (b : List UInt8) (w : World) (hr : Rdr w lo g b at_ err) (hst : Hid (readNum b at_ err most = (v, a', e'))) :
    Calls Try.prog 51 #[.pointer (some ⟨g, 0, none⟩), .int .u64 y] w fun e w' => e = .returned (.int .u64 v) ∧ Rdr w' lo g b a' e' ∧ Kept (fun k => k = g) w w' := by
  have h := num_at lo g at_ err most y hy b w hr
  rw [hst.out] at h
  exact h
theorem text_st (lo g at_ err lim a' e' : Nat) (most : Int) (l b : List UInt8) (w : World) (hr : Rdr w lo g b at_ err) (hlim : lim = most.toNat) (h1 : most ≤ 9223372036854775807) (hst : Hid (readBytes b at_ err lim = (l, a', e'))) :
    Calls Try.prog 52 #[.pointer (some ⟨g, 0, none⟩), .int .i64 most] w fun e w' => e = .returned (.string ⟨l.toArray⟩) ∧ Rdr w' lo g b a' e' ∧ Kept (fun k => k = g) w w' := by
  have h := text_any lo g at_ err lim most b w hr hlim h1
  rw [hst.out] at h
  exact h
theorem readNum_le (b : List UInt8) (a e most : Nat) : (readNum b a e most).1 ≤ most := by
  unfold readNum
  split
  · simp
  · unfold stepN
    split
    · simp
    · split
      · simp
      · simp only; omega
theorem readBytes_le (b : List UInt8) (a e lim : Nat) : (readBytes b a e lim).1.length ≤ lim := by
  unfold readBytes
  split
  · simp
  · unfold stepB
    split
    · simp
    · split
      · simp
      · split
        · simp
        · simp only [List.length_take]; omega
theorem Rdr.at_le {w : World} {lo g at_ err : Nat} {b : List UInt8} (h : Rdr w lo g b at_ err) : at_ ≤ b.length := by
  obtain ⟨A, c, _, _, _, h4, _⟩ := h
  exact h4

/-- The zero entry. -/
def zeroE : Value := .agg #[.int .i64 0, .string ⟨#[]⟩, .slice none 0 0]
/-- What whole gives. -/
def WholeGot (w : World) (b : List UInt8) (e : Ending) (w' : World) : Prop :=
  Below w.heap.size w w' ∧ ((∃ m : Me, e = .returned (.tuple #[m.val, .int .i64 ((entryB D8 m.en).length : Int), .bool true]) ∧ Begins b m.en ∧ m.Ok (fun k => w.heap.size ≤ k) w' ∧ m.Right) ∨
    (e = .returned (.tuple #[zeroE, .int .i64 0, .bool false]) ∧ ∀ x, ¬ Begins b x))
theorem run_eq_dig (xs ys : List Int) (hx : xs.length = 8) (hy : ys.length = 8) (W : World) : (Op.equalIn 10000 88 (.agg (xs.map (Value.int .u8)).toArray) (.agg (ys.map (Value.int .u8)).toArray)).run Try.prog W = .ok (decide (xs = ys)) W := by
  obtain ⟨i, hi, _⟩ := Option.map_eq_some_iff.1 u8_info
  exact run_equal_row W 9999 Try.underlying88 hi (by kernel_rfl) (by kernel_rfl) (Value.int .u8) (fun a b => by rw [run_equalIn_int W 9998 _ _ _ a b Try.underlying5]; congr 1) xs ys hx hy

theorem B8_inj {l m : List UInt8} (h : B8 l = B8 m) : l = m := by
  induction l generalizing m with
  | nil => cases m with
    | nil => rfl
    | cons _ _ => simp [B8] at h
  | cons a l ih => cases m with
    | nil => simp [B8] at h
    | cons b m =>
      simp only [B8, List.map_cons, List.cons.injEq] at h
      obtain ⟨h1, h2⟩ := h
      injection h1 with _ h1
      have h1' : a.toNat = b.toNat := by omega
      rw [UInt8.toNat_inj.1 h1', ih h2]
/-- A digest and eight bytes compared. -/
theorem eq_dv_bytes (l x : List UInt8) (hx : x.length = 8) (W : World) : (Op.equalIn 10000 88 (dv (hashOf l)) (.agg (B8 x).toArray)).run Try.prog W = .ok (decide (D8 l = x)) W := by
  have h := run_eq_dig [hashOf l 0, hashOf l 1, hashOf l 2, hashOf l 3, hashOf l 4, hashOf l 5, hashOf l 6, hashOf l 7] (x.map fun c => (c.toNat : Int)) rfl (by simpa using hx) W
  have e1 : (x.map fun c => (c.toNat : Int)).map (Value.int .u8) = B8 x := by rw [List.map_map]; rfl
  have e2 : [hashOf l 0, hashOf l 1, hashOf l 2, hashOf l 3, hashOf l 4, hashOf l 5, hashOf l 6, hashOf l 7].map (Value.int .u8) = B8 (D8 l) := by rw [B8_D8]; rfl
  have e3 : ([hashOf l 0, hashOf l 1, hashOf l 2, hashOf l 3, hashOf l 4, hashOf l 5, hashOf l 6, hashOf l 7] = (x.map fun c => (c.toNat : Int))) ↔ D8 l = x := by
    constructor
    · intro h
      refine B8_inj ?_
      rw [← e1, ← e2, h]
    · rintro rfl
      have e4 := e2.trans e1.symm
      have inj : ∀ (a b : List Int), a.map (Value.int .u8) = b.map (Value.int .u8) → a = b := by
        intro a
        induction a with
        | nil => intro b h; cases b with
          | nil => rfl
          | cons _ _ => simp at h
        | cons u a ih => intro b h; cases b with
          | nil => simp at h
          | cons v b =>
            simp only [List.map_cons, List.cons.injEq, Value.int.injEq, true_and] at h
            rw [h.1, ih b h.2]
      exact inj _ _ e4
  rw [e1] at h
  rw [show decide (D8 l = x) = decide ([hashOf l 0, hashOf l 1, hashOf l 2, hashOf l 3, hashOf l 4, hashOf l 5, hashOf l 6, hashOf l 7] = (x.map fun c => (c.toNat : Int))) from by
    by_cases hh : D8 l = x
    · rw [decide_eq_true hh, decide_eq_true (e3.2 hh)]
    · rw [decide_eq_false hh, decide_eq_false (fun h => hh (e3.1 h))]]
  exact h

theorem eq_dv8 (l : List UInt8) (x0 x1 x2 x3 x4 x5 x6 x7 : UInt8) (W : World) : (Op.equalIn 10000 88 (dv (hashOf l)) (.agg #[.int .u8 (x0.toNat : Int), .int .u8 (x1.toNat : Int), .int .u8 (x2.toNat : Int), .int .u8 (x3.toNat : Int), .int .u8 (x4.toNat : Int), .int .u8 (x5.toNat : Int), .int .u8 (x6.toNat : Int), .int .u8 (x7.toNat : Int)])).run Try.prog W = .ok (decide (D8 l = [x0, x1, x2, x3, x4, x5, x6, x7])) W := by
  have h := eq_dv_bytes l [x0, x1, x2, x3, x4, x5, x6, x7] rfl W
  have e : (B8 [x0, x1, x2, x3, x4, x5, x6, x7]).toArray = #[.int .u8 (x0.toNat : Int), .int .u8 (x1.toNat : Int), .int .u8 (x2.toNat : Int), .int .u8 (x3.toNat : Int), .int .u8 (x4.toNat : Int), .int .u8 (x5.toNat : Int), .int .u8 (x6.toNat : Int), .int .u8 (x7.toNat : Int)] := rfl
  rw [e] at h
  exact h
theorem eg_dig : Try.prog.eqGuardType Try.prog.depth 88 = false := by kernel_rfl
theorem triple {α β γ : Type} (p : α × β × γ) : ∃ x y z, p = (x, y, z) := ⟨p.1, p.2.1, p.2.2, rfl⟩
theorem list8 {α : Type} {l : List α} (h : l.length = 8) : ∃ a0 a1 a2 a3 a4 a5 a6 a7, l = [a0, a1, a2, a3, a4, a5, a6, a7] := by
  match l, h with
  | [a0, a1, a2, a3, a4, a5, a6, a7], _ => exact ⟨_, _, _, _, _, _, _, _, rfl⟩
set_option maxHeartbeats 4000000 in
set_option maxRecDepth 100000 in
theorem whole_any' (A : Option Addr) (n c : Nat) (b : List UInt8) (w : World) (ha : RB w A n b) (hnc : n ≤ c) (hcm : c ≤ 9223372036854775807) (hn : n ≤ 100000) :
    Calls Try.prog 39 #[.slice A n c] w (WholeGot w b) := by
  obtain ⟨mm, hmm⟩ : ∃ m, min n 70 = m := ⟨_, rfl⟩
  have hl := ha.len
  have hf0 := ha.upto (k := mm) (by omega)
  have hF : b.take mm = front b := by rw [front, ← hl, hmm]
  have hfl : (front b).length = mm := by rw [← hF, List.length_take]; omega
  rw [hF] at hf0
  have y0 : min (n : Int) 70 = (mm : Int) := by omega
  have y1 : (mm : Int) ≤ (c : Int) := by omega
  have y2 : (0 : Int) ≤ (mm : Int) := by omega
  have PY := Lib.hid (fun e (h : Begins b e) => prog_yes h)
  have PI := Lib.hid (fun h h2 h3 => prog_inv (b := b) h h2 h3)
  obtain ⟨kd, a1, e1, p1⟩ := triple (P1 (front b))
  obtain ⟨key, a2, e2, p2⟩ := triple (P2 (front b))
  obtain ⟨sz, a3, e3, p3⟩ := triple (P3 (front b))
  have q1 : Hid (readNum (front b) 0 0 255 = (kd, a1, e1)) := p1
  have q2 : Hid (readBytes (front b) a1 e1 64 = (key, a2, e2)) := by
    have := p2
    unfold P2 at this
    rw [p1] at this
    exact this
  have q3 : Hid (readNum (front b) a2 e2 65536 = (sz, a3, e3)) := by
    have := p3
    unfold P3 at this
    rw [p2] at this
    exact this
  have b1 : kd ≤ 255 := by have := readNum_le (front b) 0 0 255; rw [q1.out] at this; exact this
  have b2 : key.length ≤ 64 := by have := readBytes_le (front b) a1 e1 64; rw [q2.out] at this; exact this
  have b3 : sz ≤ 65536 := by have := readNum_le (front b) a2 e2 65536; rw [q3.out] at this; exact this
  have PI' : Hid (e3 = 0 → a3 + sz + 8 ≤ b.length → (b.drop (a3 + sz)).take 8 = D8 (b.take (a3 + sz)) → Begins b ⟨(kd : Int), key, (b.drop a3).take sz⟩ ∧ (entryB D8 ⟨(kd : Int), key, (b.drop a3).take sz⟩).length = a3 + sz + 8) := by
    intro h1 h2 h3
    have := PI.out
    rw [p1, p2, p3] at this
    exact this h1 h2 h3
  have PY' : Hid (∀ e, Begins b e → (kd : Int) = e.kind ∧ key = e.key ∧ e3 = 0 ∧ sz = e.body.length ∧ a3 + sz + 8 = (entryB D8 e).length ∧ a3 + sz + 8 ≤ b.length ∧ (b.drop (a3 + sz)).take 8 = D8 (b.take (a3 + sz)) ∧ (b.drop a3).take sz = e.body) := by
    intro e h
    obtain ⟨a, h1, h2, h3, h4, h5, h6, h7, h8⟩ := PY.out e h
    rw [p1] at h1
    rw [p2] at h2
    rw [p3] at h3
    simp only [Prod.mk.injEq] at h3
    obtain ⟨rfl, rfl, rfl⟩ := h3
    exact ⟨h1, h2, rfl, rfl, h4, h5, by rw [h7, h6], h8⟩
  have HFL := Lib.hid hfl
  have HL := Lib.hid hl
  have HA := Lib.hid ha
  have w1_ : IntKind.i64.wrap (kd : Int) = (kd : Int) := IntWalk.i64_in _ (by omega)
  have w3_ : IntKind.i64.wrap (sz : Int) = (sz : Int) := IntWalk.i64_in _ (by omega)
  clear PY PI p1 p2 p3 hfl hl ha hF hmm
  generalize front b = F at *
  go_enter Try.func39, Try.ntmps39
  go_wp2_with fail
  have f0 : Below w.heap.size w (w.alloc (.cells #[.int .i64 0, .string ⟨#[]⟩, .slice none 0 0] 45)) := (Below.refl _ w).al _
  have r0 := Blk.new w 45 #[.int .i64 0, .string ⟨#[]⟩, .slice none 0 0]
  generalize w.alloc (.cells #[.int .i64 0, .string ⟨#[]⟩, .slice none 0 0] 45) = W0 at *
  refine (newReader_any A mm c F _ (hf0.below f0) (by omega)).mono ?_
  rintro e w1 ⟨g, rfl, rd1, bb1⟩
  have f1 := f0.then_ bb1
  have r1 := r0.below bb1 r0.lt
  have zg := rd1.lo_le
  have zr := r0.lt
  clear r0 f0 bb1 hf0
  go_wp2_with fail
  refine (num_st _ g 0 0 255 kd a1 e1 255 rfl F w1 rd1 q1).mono ?_
  rintro e w2 ⟨rfl, rd2, k2⟩
  have r2 := r1.kept k2 (by omega)
  have f2 : Below w.heap.size w w2 := f1.trans (k2.to_below f1.size (fun q hq e => by omega))
  clear k2 r1 f1 rd1
  go_wp2_with fail
  refine (text_st _ g a1 e1 64 a2 e2 64 key F w2 rd2 rfl (by omega) q2).mono ?_
  rintro e w3 ⟨rfl, rd3, k3⟩
  have r3 := r2.kept k3 (by omega)
  have f3 : Below w.heap.size w w3 := f2.trans (k3.to_below f2.size (fun q hq e => by omega))
  clear k3 r2 f2 rd2
  go_wp2_with fail
  have e0 := Blk.new w3 45 #[.int .i64 kd, .string ⟨key.toArray⟩, .slice none 0 0]
  have ez : w3.heap.size < (w3.alloc (.cells #[.int .i64 kd, .string ⟨key.toArray⟩, .slice none 0 0] 45)).heap.size := e0.lt
  have gz := rd3.lt
  have rd3' := rd3.below ((Below.refl _ w3).al (.cells #[.int .i64 kd, .string ⟨key.toArray⟩, .slice none 0 0] 45))
  have r3' := r3.alloc (.cells #[.int .i64 kd, .string ⟨key.toArray⟩, .slice none 0 0] 45)
  have f3' := f3.al (.cells #[.int .i64 kd, .string ⟨key.toArray⟩, .slice none 0 0] 45)
  have zr3 := r3.lt
  generalize w3.alloc (.cells #[.int .i64 kd, .string ⟨key.toArray⟩, .slice none 0 0] 45) = W3 at *
  clear r3 f3 rd3
  refine (num_st _ g a2 e2 65536 sz a3 e3 65536 rfl F W3 rd3' q3).mono ?_
  rintro e w4 ⟨rfl, rd4, k4⟩
  have r4 := r3'.kept k4 (by omega)
  have e4 := e0.kept k4 (by omega)
  have f4 : Below w.heap.size w w4 := f3'.trans (k4.to_below f3'.size (fun q hq e => by omega))
  have hal := rd4.at_le
  clear k4 r3' f3' rd3' e0
  go_wp2_with fail
  refine (err_any _ g a3 e3 F w4 rd4).mono ?_
  rintro e w5 ⟨rfl, rfl⟩
  have s0 : w4.cell? ⟨w.heap.size, 0, none⟩ = some (.int .i64 0) := r4.cell 0
  have s1 : w4.cell? ⟨w.heap.size, 1, none⟩ = some (.string ⟨#[]⟩) := r4.cell 1
  have s2 : w4.cell? ⟨w.heap.size, 2, none⟩ = some (.slice none 0 0) := r4.cell 2
  have t0 := r4.frozen 0
  have t1 := r4.frozen 1
  have t2 := r4.frozen 2
  have fz : ∀ (W : World) (v0 v1 v2 : Value), Below w.heap.size w W → Below w.heap.size w (((W.setCell ⟨w.heap.size, 0, none⟩ v0).setCell ⟨w.heap.size, 1, none⟩ v1).setCell ⟨w.heap.size, 2, none⟩ v2) := fun W v0 v1 v2 h => ((h.setCell (Nat.le_refl _) _).setCell (Nat.le_refl _) _).setCell (Nat.le_refl _) _
  by_cases h3 : e3 = 0
  · subst h3
    rw [HFL.out] at hal
    obtain ⟨lf, hlf⟩ : ∃ q, F.length - a3 = q := ⟨_, rfl⟩
    have l1 : (mm : Int) - (lf : Int) = (a3 : Int) := by have := HFL.out; omega
    go_wp2_with fail
    refine (left_any _ g a3 0 F w4 rd4).mono ?_
    rintro e w6 ⟨rfl, q, hw6⟩
    rw [hlf]
    have f6 : Below w.heap.size w w6 := by rw [hw6]; exact below_drewN f4 q
    have r6 : Blk w6 w.heap.size 45 #[.int .i64 0, .string ⟨#[]⟩, .slice none 0 0] := by rw [hw6]; exact r4.drewN q
    have e6 : Blk w6 w3.heap.size 45 #[.int .i64 kd, .string ⟨key.toArray⟩, .slice none 0 0] := by rw [hw6]; exact e4.drewN q
    clear s0 s1 s2 t0 t1 t2 hlf hw6 rd4 r4 e4 f4
    have s0 : w6.cell? ⟨w.heap.size, 0, none⟩ = some (.int .i64 0) := r6.cell 0
    have s1 : w6.cell? ⟨w.heap.size, 1, none⟩ = some (.string ⟨#[]⟩) := r6.cell 1
    have s2 : w6.cell? ⟨w.heap.size, 2, none⟩ = some (.slice none 0 0) := r6.cell 2
    have t0 := r6.frozen 0
    have t1 := r6.frozen 1
    have t2 := r6.frozen 2
    by_cases hto : a3 + sz + 8 ≤ n
    · obtain ⟨bb, o, rfl, hbb, -⟩ := HA.out.at_ (k := 0) (by omega)
      obtain ⟨x, hx⟩ : ∃ x, (b.drop (a3 + sz)).take 8 = x := ⟨_, rfl⟩
      have hxl : x.length = 8 := by rw [← hx, List.length_take, List.length_drop, ← HL.out]; omega
      have hcx : ∀ i (hi : i < 8), w.cell? ⟨bb, o + (a3 + sz) + i, none⟩ = some (.int .u8 ((x[i]'(by omega)).toNat : Int)) := by
        intro i hi
        obtain ⟨bb', o', e', _, hl', hc'⟩ := HA.out.at_ (k := a3 + sz + i) (by omega)
        injection e' with e'
        injection e' with e1' e2'
        subst e1' e2'
        rw [Nat.add_assoc, hc']
        have : x[i]'(by omega) = b[a3 + sz + i]'hl' := by
          subst hx
          simp
        rw [this]
      obtain ⟨x0, x1, x2, x3, x4, x5, x6, x7, rfl⟩ := list8 hxl
      have HKC : Hid (∀ W, Below w.heap.size w W → W.cell? ⟨bb, o + (a3 + sz), none⟩ = some (.int .u8 (x0.toNat : Int)) ∧ W.cell? ⟨bb, o + (a3 + sz) + 1, none⟩ = some (.int .u8 (x1.toNat : Int)) ∧ W.cell? ⟨bb, o + (a3 + sz) + 2, none⟩ = some (.int .u8 (x2.toNat : Int)) ∧ W.cell? ⟨bb, o + (a3 + sz) + 3, none⟩ = some (.int .u8 (x3.toNat : Int)) ∧ W.cell? ⟨bb, o + (a3 + sz) + 4, none⟩ = some (.int .u8 (x4.toNat : Int)) ∧ W.cell? ⟨bb, o + (a3 + sz) + 5, none⟩ = some (.int .u8 (x5.toNat : Int)) ∧ W.cell? ⟨bb, o + (a3 + sz) + 6, none⟩ = some (.int .u8 (x6.toNat : Int)) ∧ W.cell? ⟨bb, o + (a3 + sz) + 7, none⟩ = some (.int .u8 (x7.toNat : Int))) := fun W hW =>
        ⟨(hW.cell (p := ⟨bb, _, none⟩) hbb).trans (hcx 0 (by omega)), (hW.cell (p := ⟨bb, _, none⟩) hbb).trans (hcx 1 (by omega)), (hW.cell (p := ⟨bb, _, none⟩) hbb).trans (hcx 2 (by omega)), (hW.cell (p := ⟨bb, _, none⟩) hbb).trans (hcx 3 (by omega)), (hW.cell (p := ⟨bb, _, none⟩) hbb).trans (hcx 4 (by omega)), (hW.cell (p := ⟨bb, _, none⟩) hbb).trans (hcx 5 (by omega)), (hW.cell (p := ⟨bb, _, none⟩) hbb).trans (hcx 6 (by omega)), (hW.cell (p := ⟨bb, _, none⟩) hbb).trans (hcx 7 (by omega))⟩
      have heq' := eq_dv8 (b.take (a3 + sz)) x0 x1 x2 x3 x4 x5 x6 x7
      have HUP := Lib.hid (HA.out.upto (k := a3 + sz) (by omega))
      have HH := Lib.hid (fun W (r : RB W (some ⟨bb, o, none⟩) (a3 + sz) (b.take (a3 + sz))) => hashOf_any (some ⟨bb, o, none⟩) (a3 + sz) c (b.take (a3 + sz)) W r (by omega) hcm)
      generalize hashOf (b.take (a3 + sz)) = DD at HH heq'
      have g1 : decide ((n : Int) < (a3 : Int) + (sz : Int) + 8) = false := by rw [decide_eq_false_iff_not]; omega
      have hat : ∀ W, (Instr.arrayAt 88 (.slice (some ⟨bb, o + (a3 + sz), none⟩) 8 (c - (a3 + sz)))).run Try.prog W = .ok (.pointer (some ⟨bb, o + (a3 + sz), none⟩)) W := fun W => run_arrayAt W _ _ 8 _ 8 _ Try.underlying88 (Nat.le_refl _)
      have g4 : IntKind.i64.wrap ((a3 : Int) + (sz : Int)) = (a3 : Int) + (sz : Int) := IntWalk.i64_in _ (by omega)
      have g5 : IntKind.i64.wrap ((a3 : Int) + (sz : Int) + 8) = (a3 : Int) + (sz : Int) + 8 := IntWalk.i64_in _ (by omega)
      have g6 : (0 : Int) ≤ (a3 : Int) + (sz : Int) := by omega
      have g7 : (a3 : Int) + (sz : Int) ≤ (c : Int) := by omega
      have g8 : (a3 : Int) + (sz : Int) + 8 ≤ (c : Int) := by omega
      have g9 : (a3 : Int) + (sz : Int) ≤ (a3 : Int) + (sz : Int) + 8 := by omega
      have g10 : ((a3 : Int) + (sz : Int)).toNat = a3 + sz := by omega
      have g11 : ((a3 : Int) + (sz : Int) + 8).toNat = a3 + sz + 8 := by omega
      have g2 : ¬ c = a3 + sz := by omega
      have g3 : ¬ c = a3 := by omega
      have HX := Lib.hid hx
      clear hx hcx
      by_cases hd : D8 (b.take (a3 + sz)) = [x0, x1, x2, x3, x4, x5, x6, x7]
      · obtain ⟨y, hy⟩ : ∃ y, dv DD = y := ⟨_, rfl⟩
        have heq1 : ∀ W, (eqGuard BinOp.neq 88 (Operand.tmp 47) (Operand.tmp 54) y (.agg #[.int .u8 (x0.toNat : Int), .int .u8 (x1.toNat : Int), .int .u8 (x2.toNat : Int), .int .u8 (x3.toNat : Int), .int .u8 (x4.toNat : Int), .int .u8 (x5.toNat : Int), .int .u8 (x6.toNat : Int), .int .u8 (x7.toNat : Int)])).run Try.prog W = .ok () W := fun W => by
          rw [← hy]
          exact run_eqGuard_agg _ _ _ _ _ _ _ eg_dig
        have heq2 : ∀ W, (binOp BinOp.neq 88 y (.agg #[.int .u8 (x0.toNat : Int), .int .u8 (x1.toNat : Int), .int .u8 (x2.toNat : Int), .int .u8 (x3.toNat : Int), .int .u8 (x4.toNat : Int), .int .u8 (x5.toNat : Int), .int .u8 (x6.toNat : Int), .int .u8 (x7.toNat : Int)])).run Try.prog W = .ok (.bool false) W := fun W => by
          rw [← hy, run_neq_struct, heq' W, decide_eq_true hd]
          rfl
        simp only [hy] at HH
        clear hy heq'
        have HD := Lib.hid hd
        clear hd
        go_upto_region 9 with fail
        have rr : Below w6.heap.size w6 w6.drew := (Below.refl _ w6).drew
        go_region_held3 (fun W => W.cell? ⟨bb, o + (a3 + sz), none⟩ = some (.int .u8 (x0.toNat : Int)) ∧ W.cell? ⟨bb, o + (a3 + sz) + 1, none⟩ = some (.int .u8 (x1.toNat : Int)) ∧ W.cell? ⟨bb, o + (a3 + sz) + 2, none⟩ = some (.int .u8 (x2.toNat : Int)) ∧ W.cell? ⟨bb, o + (a3 + sz) + 3, none⟩ = some (.int .u8 (x3.toNat : Int)) ∧ W.cell? ⟨bb, o + (a3 + sz) + 4, none⟩ = some (.int .u8 (x4.toNat : Int)) ∧ W.cell? ⟨bb, o + (a3 + sz) + 5, none⟩ = some (.int .u8 (x5.toNat : Int)) ∧ W.cell? ⟨bb, o + (a3 + sz) + 6, none⟩ = some (.int .u8 (x6.toNat : Int)) ∧ W.cell? ⟨bb, o + (a3 + sz) + 7, none⟩ = some (.int .u8 (x7.toNat : Int)))
          (with_reducible exact HKC.out _ (f6.then_ rr))
          (first | (go_at_call 49; refine (HH.out _ (HUP.out.below (f6.then_ rr))).mono ?_; rintro e w7 ⟨rfl, b7⟩; have rr := rr.then_ b7))
        all_goals
          have f7 := f6.then_ rr
          have r7 := r6.below rr r6.lt
          have e7 := e6.below rr e6.lt
          have ez7 := e7.lt
          have zr7 := rr.size
          have HE7 := Lib.hid e7
          have HR7 := Lib.hid r7
          have hrb := (HUP.out.cut (k := a3) (cap := c) (by omega) (by omega)).below f7
          rw [if_neg g3, Nat.add_sub_cancel_left, List.drop_take, Nat.add_sub_cancel_left] at hrb
          have hadr : (some (⟨bb, o, none⟩ : Addr)).map (·.add a3) = some ⟨bb, o + a3, none⟩ := by simp [Addr.add_lit]
          rw [hadr] at hrb
          have HPI := Lib.hid (PI'.out (by trivial) (by have := HL.out; omega) (by rw [HD.out]; exact HX.out))
          clear PI' PY' HKC HH heq1 heq2 rr hat e7 r7 hadr s0 s1 s2 t0 t1 t2
          go_wp2_with fail
          refine (bclone_any (some ⟨bb, o + a3, none⟩) sz (c - a3) ((b.drop a3).take sz) _ hrb (by omega)).mono ?_
          rintro e w8 ⟨A8, n8, c8, rfl, hnc8, hcm8, ho8, b8⟩
          have f8 := f7.then_ b8
          have e8 := HE7.out.below b8 HE7.out.lt
          have r8 := HR7.out.below b8 HR7.out.lt
          have k0 : w8.cell? ⟨w3.heap.size, 0, none⟩ = some (.int .i64 kd) := e8.cell 0
          have k1 : w8.cell? ⟨w3.heap.size, 1, none⟩ = some (.string ⟨key.toArray⟩) := e8.cell 1
          have k2 : w8.cell? ⟨w3.heap.size, 2, none⟩ = some (.slice none 0 0) := e8.cell 2
          have k3 := e8.frozen 2
          have s0 : w8.cell? ⟨w.heap.size, 0, none⟩ = some (.int .i64 0) := r8.cell 0
          have s1 : w8.cell? ⟨w.heap.size, 1, none⟩ = some (.string ⟨#[]⟩) := r8.cell 1
          have s2 : w8.cell? ⟨w.heap.size, 2, none⟩ = some (.slice none 0 0) := r8.cell 2
          have t0 := r8.frozen 0
          have t1 := r8.frozen 1
          have t2 := r8.frozen 2
          have HO8 := Lib.hid ho8
          have zw3 : w.heap.size < w3.heap.size := zr3
          have zne : w3.heap.size ≠ w.heap.size := by omega
          have zne' := zne.symm
          clear ho8 e8 r8 b8 hrb
          go_wp2_with fail
          have hnum : ((entryB D8 (Me.en ⟨(kd : Int), ⟨key.toArray⟩, A8, n8, c8, (b.drop a3).take sz⟩)).length : Int) = (a3 : Int) + (sz : Int) + 8 := by
            have : (entryB D8 (Me.en ⟨(kd : Int), ⟨key.toArray⟩, A8, n8, c8, (b.drop a3).take sz⟩)).length = a3 + sz + 8 := HPI.out.2
            rw [this]
            omega
          have HNUM := Lib.hid hnum
          have hOB := (((HO8.out.setLow (p := ⟨w3.heap.size, 2, none⟩) (by simp; omega) (.slice A8 n8 c8)).setLow (p := ⟨w.heap.size, 0, none⟩) (by simp; omega) (.int .i64 kd)).setLow (p := ⟨w.heap.size, 1, none⟩) (by simp; omega) (.string ⟨key.toArray⟩)).setLow (p := ⟨w.heap.size, 2, none⟩) (by simp; omega) (.slice A8 n8 c8)
          have hin := hOB.rin.mono (E := fun k => w.heap.size ≤ k) (fun k _ hk => by omega)
          have hn8 := hin.1
          have hbl : ((b.drop a3).take sz).length ≤ sz := by rw [List.length_take]; omega
          clear hnum
          refine bodyPost_ret (v := .tuple #[.agg #[.int .i64 kd, .string ⟨key.toArray⟩, .slice A8 n8 c8], .int .i64 ((a3 : Int) + (sz : Int) + 8), .bool true]) (by simp [results, Try.results39, go_sem, s0, s1, s2]) rfl ⟨fz _ _ _ _ (f8.setCell (by simp; omega) _), .inl ⟨⟨(kd : Int), ⟨key.toArray⟩, A8, n8, c8, (b.drop a3).take sz⟩, ?_, HPI.out.1, ⟨by simp only; omega, by simp only; omega, ?_, hnc8, hcm8, hin⟩, ?_⟩⟩
          · rw [HNUM.out]
            rfl
          · show key.toArray.size ≤ _
            rw [List.size_toArray]
            omega
          · refine ⟨by simp only; omega, by simp only; omega, ?_, by simp only; omega⟩
            show key.toArray.size ≤ _
            rw [List.size_toArray]
            exact b2
      · have HNB : Hid (∀ x, ¬ Begins b x) := fun x hx' => hd (by rw [← (PY'.out x hx').2.2.2.2.2.2.1]; exact HX.out)
        obtain ⟨y, hy⟩ : ∃ y, dv DD = y := ⟨_, rfl⟩
        have heq1 : ∀ W, (eqGuard BinOp.neq 88 (Operand.tmp 47) (Operand.tmp 54) y (.agg #[.int .u8 (x0.toNat : Int), .int .u8 (x1.toNat : Int), .int .u8 (x2.toNat : Int), .int .u8 (x3.toNat : Int), .int .u8 (x4.toNat : Int), .int .u8 (x5.toNat : Int), .int .u8 (x6.toNat : Int), .int .u8 (x7.toNat : Int)])).run Try.prog W = .ok () W := fun W => by
          rw [← hy]
          exact run_eqGuard_agg _ _ _ _ _ _ _ eg_dig
        have heq2 : ∀ W, (binOp BinOp.neq 88 y (.agg #[.int .u8 (x0.toNat : Int), .int .u8 (x1.toNat : Int), .int .u8 (x2.toNat : Int), .int .u8 (x3.toNat : Int), .int .u8 (x4.toNat : Int), .int .u8 (x5.toNat : Int), .int .u8 (x6.toNat : Int), .int .u8 (x7.toNat : Int)])).run Try.prog W = .ok (.bool true) W := fun W => by
          rw [← hy, run_neq_struct, heq' W, decide_eq_false hd]
          rfl
        simp only [hy] at HH
        clear hy heq'
        clear hd
        go_upto_region 9 with fail
        have rr : Below w6.heap.size w6 w6.drew := (Below.refl _ w6).drew
        go_region_held3 (fun W => W.cell? ⟨bb, o + (a3 + sz), none⟩ = some (.int .u8 (x0.toNat : Int)) ∧ W.cell? ⟨bb, o + (a3 + sz) + 1, none⟩ = some (.int .u8 (x1.toNat : Int)) ∧ W.cell? ⟨bb, o + (a3 + sz) + 2, none⟩ = some (.int .u8 (x2.toNat : Int)) ∧ W.cell? ⟨bb, o + (a3 + sz) + 3, none⟩ = some (.int .u8 (x3.toNat : Int)) ∧ W.cell? ⟨bb, o + (a3 + sz) + 4, none⟩ = some (.int .u8 (x4.toNat : Int)) ∧ W.cell? ⟨bb, o + (a3 + sz) + 5, none⟩ = some (.int .u8 (x5.toNat : Int)) ∧ W.cell? ⟨bb, o + (a3 + sz) + 6, none⟩ = some (.int .u8 (x6.toNat : Int)) ∧ W.cell? ⟨bb, o + (a3 + sz) + 7, none⟩ = some (.int .u8 (x7.toNat : Int)))
          (with_reducible exact HKC.out _ (f6.then_ rr))
          (first | (go_at_call 49; refine (HH.out _ (HUP.out.below (f6.then_ rr))).mono ?_; rintro e w7 ⟨rfl, b7⟩; have rr := rr.then_ b7))
        all_goals
          have f7 := f6.then_ rr
          have r7 := r6.below rr r6.lt
          clear PI' PY' HKC HH heq1 heq2 rr hat s0 s1 s2 t0 t1 t2
          have s0 := r7.cell 0
          have s1 := r7.cell 1
          have s2 := r7.cell 2
          have t0 := r7.frozen 0
          have t1 := r7.frozen 1
          have t2 := r7.frozen 2
          simp only [List.getElem?_toArray, List.getElem?_cons_zero, List.getElem?_cons_succ] at s0 s1 s2
          go_wp2_with fail
          refine bodyPost_ret (v := .tuple #[zeroE, .int .i64 0, .bool false]) (by simp [results, Try.results39, go_sem, s0, s1, s2, zeroE]) rfl ⟨fz _ _ _ _ f7, .inr ⟨rfl, HNB.out⟩⟩
    · have g3 : (n : Int) < (a3 : Int) + (sz : Int) + 8 := by omega
      have HNB : Hid (∀ x, ¬ Begins b x) := fun x hx => hto (by rw [HL.out]; exact (PY'.out x hx).2.2.2.2.2.1)
      clear PY' PI' hal hto r6 e6
      go_upto_region 9 with fail
      go_region
      go_wp2_with fail
      refine bodyPost_ret (v := .tuple #[zeroE, .int .i64 0, .bool false]) (by simp [results, Try.results39, go_sem, s0, s1, s2, zeroE]) rfl ⟨fz _ _ _ _ f6.drew, .inr ⟨rfl, HNB.out⟩⟩
  · have g3 : ((e3 : Int) != 0) = true := by simp; omega
    have HNB : Hid (∀ x, ¬ Begins b x) := fun x hx => h3 (PY'.out x hx).2.2.1
    clear PY' PI' hal
    go_wp2_with fail
    refine bodyPost_ret (v := .tuple #[zeroE, .int .i64 0, .bool false]) (by simp [results, Try.results39, go_sem, s0, s1, s2, zeroE]) rfl ⟨fz _ _ _ _ f4, .inr ⟨rfl, HNB.out⟩⟩
end Go.Proofs.Ytidppcaohkfnfaa
