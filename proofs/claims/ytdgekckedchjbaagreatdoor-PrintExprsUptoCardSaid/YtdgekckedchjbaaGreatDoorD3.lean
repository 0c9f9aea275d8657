
/-
  The document's parser: where it stands; its small steps.
-/
import Derived.Test.YtdgekckedchjbaaGreatDoorD2
import Derived.Test.YtdgekckedchjbaaGreatDoorQD
import Derived.Deep.RegionHeld3
namespace Go.Proofs.YtdgekckedchjbaaGreatDoor
open Go.RowKit

/-- The marks that join, and those that begin. -/
def markTs : List (List UInt8) := [[111, 114], [97, 110, 100], [61], [33, 61], [60], [60, 61], [62], [62, 61], [43], [45], [42], [47], [37]]
/-- The document's parser at token i. -/
structure DP (w : World) (g : Nat) (A : Option Addr) (c : Nat) (ts : List Tk) (i : Nat) (er : Int) : Prop where
  rd : Reads w w.heap.size 5 A ts.length (tksCells ts)
  far : ∀ a, A = some a → a.block ≠ g
  lim : ts.length ≤ 70000
  more : ∀ (t : Tk) (j : Nat), ts[j]? = some t → t.kind ≠ 0 → j + 1 < ts.length
  mark : ∀ t ∈ ts, t.text ∈ markTs → t.kind = 3 ∨ t.kind = 4
  blk : Blk w g 105 #[.slice A ts.length c, .int .i64 i, .int .i64 er]
  at_ : i < ts.length
section
variable {w w' : World} {g c : Nat} {A : Option Addr} {ts : List Tk} {i : Nat} {er : Int}
theorem DP.put {S : Nat → Prop} (h : DP w g A c ts i er) (hk : Kept S w w') (hs : ∀ k, k < w.heap.size → S k → k = g) {i' : Nat} {er' : Int} (hi : i' < ts.length) (hb : Blk w' g 105 #[.slice A ts.length c, .int .i64 i', .int .i64 er']) : DP w' g A c ts i' er' :=
  ⟨Reads.keptfar h.rd (hk.mono hs) h.far, h.far, h.lim, h.more, h.mark, hb, hi⟩
theorem DP.below (h : DP w g A c ts i er) (hb : Below w.heap.size w w') : DP w' g A c ts i er := h.put (Kept.of_below (S := fun _ => False) hb) (fun _ _ h => h.elim) h.at_ (h.blk.below hb h.blk.lt)
theorem DP.tok (h : DP w g A c ts i er) : ∃ (t : Tk) (b o : Nat), ts[i]? = some t ∧ A = some ⟨b, o, none⟩ ∧ b < w.heap.size ∧ b ≠ g ∧ w.cell? ⟨b, o + i * 5, none⟩ = some (.int .i64 t.kind) ∧ w.cell? ⟨b, o + i * 5 + 1, none⟩ = some (.string (str t.text)) ∧
    w.cell? ⟨b, o + i * 5 + 2, none⟩ = some (.int .i64 t.n) ∧ w.cell? ⟨b, o + i * 5 + 3, none⟩ = some (.int .i64 t.line) ∧ w.cell? ⟨b, o + i * 5 + 4, none⟩ = some (.int .i64 t.col) := by
  have hi := h.at_
  obtain ⟨b, o, rfl, hb, hc⟩ := h.rd.chunk (by omega) hi (tksCells_cut ts i hi)
  exact ⟨ts[i], b, o, List.getElem?_eq_getElem hi, rfl, hb, fun e => h.far _ rfl e, hc 0 _ rfl, hc 1 _ rfl, hc 2 _ rfl, hc 3 _ rfl, hc 4 _ rfl⟩
theorem DP.one (h : DP w g A c ts i er) : ∃ t : Tk, ts[i]? = some t := ⟨ts[i]'h.at_, List.getElem?_eq_getElem h.at_⟩
end
set_option maxHeartbeats 2000000 in
set_option maxRecDepth 100000 in
theorem now_any (g c : Nat) (A : Option Addr) (ts : List Tk) (i : Nat) (er : Int) (w : World) (h : DP w g A c ts i er) (t : Tk) (ht : ts[i]? = some t) :
    Calls Tryz.prog 48 #[.pointer (some ⟨g, 0, none⟩)] w fun e w' => e = .returned (.agg #[.int .i64 t.kind, .string (str t.text), .int .i64 t.n, .int .i64 t.line, .int .i64 t.col]) ∧ Below w.heap.size w w' := by
  obtain ⟨t', b, o, ht', rfl, hb, hbg, q0, q1, q2, q3, q4⟩ := h.tok
  obtain rfl : t' = t := Option.some.inj (ht'.symm.trans ht)
  have B := h.blk
  have hi := h.at_
  obtain ⟨n, hn⟩ : ∃ n, ts.length = n := ⟨_, rfl⟩
  rw [hn] at B hi
  obtain ⟨W1, hW1⟩ : ∃ W, W = w.alloc (.cells #[.int .i64 0, .string ⟨#[]⟩, .int .i64 0, .int .i64 0, .int .i64 0] 108) := ⟨_, rfl⟩
  have c1 : Blk W1 w.heap.size 108 #[.int .i64 0, .string ⟨#[]⟩, .int .i64 0, .int .i64 0, .int .i64 0] := by
    rw [hW1]
    exact Blk.new w _ _
  have f1 : Below w.heap.size w W1 := by
    rw [hW1]
    exact (Below.refl _ w).al _
  have HB := Lib.hid (B.below f1 B.lt)
  have e0 := (f1.cell (p := ⟨b, o + i * 5, none⟩) hb).trans q0
  have e1 := (f1.cell (p := ⟨b, o + i * 5 + 1, none⟩) hb).trans q1
  have e2 := (f1.cell (p := ⟨b, o + i * 5 + 2, none⟩) hb).trans q2
  have e3 := (f1.cell (p := ⟨b, o + i * 5 + 3, none⟩) hb).trans q3
  have e4 := (f1.cell (p := ⟨b, o + i * 5 + 4, none⟩) hb).trans q4
  have k0 : W1.cell? ⟨g, 0, none⟩ = some (.slice (some ⟨b, o, none⟩) n c) := HB.out.cell 0
  have k1 : W1.cell? ⟨g, 1, none⟩ = some (.int .i64 i) := HB.out.cell 1
  have C1 := Lib.hid c1
  have F1 := Lib.hid f1
  have HW := Lib.hid hW1
  have g1 : (0 : Int) ≤ (i : Int) := by omega
  have g2 : (i : Int) < (n : Int) := by omega
  have v0 : W1.cell? ⟨w.heap.size, 0, none⟩ = some (.int .i64 0) := c1.cell 0
  have v1 : W1.cell? ⟨w.heap.size, 1, none⟩ = some (.string ⟨#[]⟩) := c1.cell 1
  have v2 : W1.cell? ⟨w.heap.size, 2, none⟩ = some (.int .i64 0) := c1.cell 2
  have v3 : W1.cell? ⟨w.heap.size, 3, none⟩ = some (.int .i64 0) := c1.cell 3
  have v4 : W1.cell? ⟨w.heap.size, 4, none⟩ = some (.int .i64 0) := c1.cell 4
  have y0 : W1.frozen? ⟨w.heap.size, 0, none⟩ = false := c1.frozen 0
  have y1 : W1.frozen? ⟨w.heap.size, 1, none⟩ = false := c1.frozen 1
  have y2 : W1.frozen? ⟨w.heap.size, 2, none⟩ = false := c1.frozen 2
  have y3 : W1.frozen? ⟨w.heap.size, 3, none⟩ = false := c1.frozen 3
  have y4 : W1.frozen? ⟨w.heap.size, 4, none⟩ = false := c1.frozen 4
  clear h ht ht' hn q0 q1 q2 q3 q4 B c1 f1 hW1
  go_enter Tryz.func48, Tryz.ntmps48
  go_upto_region 1 with fail
  rw [← show W1 = _ from HW.out]
  clear HW
  go_region
  have X9 := C1.out.put5 (.int .i64 t'.kind) (.string (str t'.text)) (.int .i64 t'.n) (.int .i64 t'.line) (.int .i64 t'.col)
  have K9 := Kept.put5 W1 w.heap.size (.int .i64 t'.kind) (.string (str t'.text)) (.int .i64 t'.n) (.int .i64 t'.line) (.int .i64 t'.col)
  clear v0 v1 v2 v3 v4 y0 y1 y2 y3 y4
  generalize ((((W1.setCell ⟨w.heap.size, 0, none⟩ (.int .i64 t'.kind)).setCell ⟨w.heap.size, 1, none⟩ (.string (str t'.text))).setCell ⟨w.heap.size, 2, none⟩ (.int .i64 t'.n)).setCell ⟨w.heap.size, 3, none⟩ (.int .i64 t'.line)).setCell ⟨w.heap.size, 4, none⟩ (.int .i64 t'.col) = W9 at *
  have s0 : W9.cell? ⟨w.heap.size, 0, none⟩ = some (.int .i64 t'.kind) := X9.cell 0
  have s1 : W9.cell? ⟨w.heap.size, 1, none⟩ = some (.string (str t'.text)) := X9.cell 1
  have s2 : W9.cell? ⟨w.heap.size, 2, none⟩ = some (.int .i64 t'.n) := X9.cell 2
  have s3 : W9.cell? ⟨w.heap.size, 3, none⟩ = some (.int .i64 t'.line) := X9.cell 3
  have s4 : W9.cell? ⟨w.heap.size, 4, none⟩ = some (.int .i64 t'.col) := X9.cell 4
  have fz := F1.out.size
  go_wp2_with fail
  refine bodyPost_ret (v := .agg #[.int .i64 t'.kind, .string (str t'.text), .int .i64 t'.n, .int .i64 t'.line, .int .i64 t'.col]) (by simp [results, Tryz.results48, go_sem, s0, s1, s2, s3, s4]) rfl ⟨rfl, ?_⟩
  exact (F1.out.trans (K9.to_below fz (fun z hz e => by omega))).drew
set_option maxHeartbeats 2000000 in
set_option maxRecDepth 100000 in
theorem is_any (g c : Nat) (A : Option Addr) (ts : List Tk) (i : Nat) (er : Int) (s : ByteArray) (w : World) (h : DP w g A c ts i er) :
    Calls Tryz.prog 104 #[.pointer (some ⟨g, 0, none⟩), .string s] w (Tells w (hasT s.data.toList (ts.drop i))) := by
  obtain ⟨t, ht⟩ := h.one
  have NW := Lib.hid (now_any g c A ts i er w h t ht)
  have HB : Hid (hasT s.data.toList (ts.drop i) = ((decide (t.kind = 3) || decide (t.kind = 4)) && decide (t.text = s.data.toList))) := by
    rw [drop_tok ht]
    rfl
  have htx : ((str t.text).toList == s.toList) = decide (t.text = s.data.toList) := by
    rw [tl_eq, tl_eq, str_list]
    by_cases h : t.text = s.data.toList <;> simp [h]
  obtain ⟨bx, hbx⟩ : ∃ b, decide (t.text = s.data.toList) = b := ⟨_, rfl⟩
  rw [hbx] at HB htx
  clear h ht hbx
  go_enter Tryz.func104, Tryz.ntmps104
  go_wp2_with fail
  refine NW.out.mono ?_
  rintro e w1 ⟨rfl, b1⟩
  have b2 : Below w.heap.size w (w1.alloc (.cells #[.int .i64 t.kind, .string (str t.text), .int .i64 t.n, .int .i64 t.line, .int .i64 t.col] 108)) := b1.al _
  by_cases k3 : t.kind = 3
  · have HC : Hid (hasT s.data.toList (ts.drop i) = bx) := by rw [Hid, HB.out, k3]; simp
    have e3 : ((t.kind : Int) == 3) = true := by simp [k3]
    clear k3 HB
    go_wp2_with fail
    go_ret
    exact ⟨by rw [HC.out]; rfl, b2⟩
  · have e3 : ((t.kind : Int) == 3) = false := by simp [k3]
    by_cases k4 : t.kind = 4
    · have HC : Hid (hasT s.data.toList (ts.drop i) = bx) := by rw [Hid, HB.out, k4]; simp
      have e4 : ((t.kind : Int) == 4) = true := by simp [k4]
      clear k3 k4 HB
      go_wp2_with fail
      go_ret
      exact ⟨by rw [HC.out]; rfl, b2⟩
    · have HC : Hid (hasT s.data.toList (ts.drop i) = false) := by rw [Hid, HB.out]; simp [k3, k4]
      have e4 : ((t.kind : Int) == 4) = false := by simp [k4]
      clear k3 k4 HB
      go_wp2_with fail
      go_ret
      exact ⟨by rw [HC.out]; rfl, b2⟩
/-- A step of the document's parser: it gives v and stands at token i with error er. -/
def DTo (w : World) (g c : Nat) (A : Option Addr) (ts : List Tk) (v : Value) (i : Nat) (er : Int) (e : Ending) (w' : World) : Prop :=
  e = .returned v ∧ DP w' g A c ts i er ∧ Kept (fun z => z = g) w w'
set_option maxRecDepth 100000 in
theorem run_fieldRT0 (w : World) (k n l c : Int) (s : ByteArray) : Sem.run Tryz.prog (Instr.field 108 (.agg #[.int .i64 k, .string s, .int .i64 n, .int .i64 l, .int .i64 c]) 0) w = .ok (.int .i64 k) w := by rfl
set_option maxHeartbeats 2000000 in
set_option maxRecDepth 100000 in
theorem fail_any (g c : Nat) (A : Option Addr) (ts : List Tk) (i : Nat) (w : World) (h : DP w g A c ts i 0) :
    Calls Tryz.prog 49 #[.pointer (some ⟨g, 0, none⟩)] w fun e w' => ∃ er, er ≠ 0 ∧ DTo w g c A ts (.tuple #[]) i er e w' := by
  obtain ⟨t, ht⟩ := h.one
  have B := h.blk
  have c2 : w.cell? ⟨g, 2, none⟩ = some (.int .i64 0) := B.cell 2
  have z2 := B.frozen 2
  have K3 := Kept.refl (fun z => z = g) w |>.setCell (p := ⟨g, 2, none⟩) (fun _ => rfl) (.int .i64 3)
  have B3 : Blk (w.setCell ⟨g, 2, none⟩ (.int .i64 3)) g 105 #[.slice A ts.length c, .int .i64 i, .int .i64 3] := by
    have := B.set_ 2 (.int .i64 3)
    simpa using this
  have D3 := Lib.hid (h.put K3 (fun _ _ e => e) h.at_ B3)
  have NW := Lib.hid (now_any g c A ts i 3 _ D3.out t ht)
  have K3' := Lib.hid K3
  clear h ht B B3 K3
  go_enter Tryz.func49, Tryz.ntmps49
  go_wp2_with fail
  generalize w.setCell ⟨g, 2, none⟩ (.int .i64 3) = W3 at *
  refine NW.out.mono ?_
  rintro e w1 ⟨rfl, b1⟩
  have D4 := Lib.hid (D3.out.below b1)
  have K4 := Lib.hid (K3'.out.below_ b1)
  have y2 : w1.cell? ⟨g, 2, none⟩ = some (.int .i64 3) := D4.out.blk.cell 2
  have u2 := D4.out.blk.frozen 2
  by_cases k0 : t.kind = 0
  · have e0 : ((t.kind : Int) == 0) = true := by simp [k0]
    have K5 := (Kept.refl (fun z => z = g) w1).setCell (p := ⟨g, 2, none⟩) (fun _ => rfl) (.int .i64 4)
    have B5 : Blk (w1.setCell ⟨g, 2, none⟩ (.int .i64 4)) g 105 #[.slice A ts.length c, .int .i64 i, .int .i64 4] := by
      have := D4.out.blk.set_ 2 (.int .i64 4)
      simpa using this
    have D5 := Lib.hid (D4.out.put K5 (fun _ _ e => e) D4.out.at_ B5)
    have K6 := Lib.hid (K4.out.then_ K5 (fun _ _ e => e))
    clear k0 K5 B5
    go_wp2_with fail
    rw [run_fieldRT0]
    go_wp2_with fail
    go_end0
    exact ⟨4, by decide, rfl, D5.out, K6.out⟩
  · have e0 : ((t.kind : Int) == 0) = false := by simp [k0]
    clear k0
    go_wp2_with fail
    rw [run_fieldRT0]
    go_wp2_with fail
    go_end0
    exact ⟨3, by decide, rfl, D4.out, K4.out⟩
/-- What a void step leaves: it is passed over, or an error is set. -/
def EatTo (w : World) (g c : Nat) (A : Option Addr) (ts : List Tk) (ok : Bool) (i : Nat) (e : Ending) (w' : World) : Prop :=
  if ok then DTo w g c A ts (.tuple #[]) (i + 1) 0 e w' else ∃ er, er ≠ 0 ∧ DTo w g c A ts (.tuple #[]) i er e w'
theorem hasT_more {w : World} {g c : Nat} {A : Option Addr} {ts : List Tk} {i : Nat} {er : Int} {x : List UInt8} (h : DP w g A c ts i er) (hx : hasT x (ts.drop i) = true) : i + 1 < ts.length := by
  obtain ⟨t, ht⟩ := h.one
  rw [drop_tok ht] at hx
  refine h.more t i ht fun e => ?_
  simp [hasT, e] at hx
set_option maxHeartbeats 2000000 in
set_option maxRecDepth 100000 in
theorem eat_any (g c : Nat) (A : Option Addr) (ts : List Tk) (i : Nat) (s : ByteArray) (w : World) (h : DP w g A c ts i 0) :
    Calls Tryz.prog 101 #[.pointer (some ⟨g, 0, none⟩), .string s] w (EatTo w g c A ts (hasT s.data.toList (ts.drop i)) i) := by
  have IS := Lib.hid (is_any g c A ts i 0 s w h)
  have c2 : w.cell? ⟨g, 2, none⟩ = some (.int .i64 0) := h.blk.cell 2
  have HH := Lib.hid h
  have HM := Lib.hid (fun hx => hasT_more h (x := s.data.toList) hx)
  have hlim := h.lim
  have hat := h.at_
  generalize hasT s.data.toList (ts.drop i) = b at *
  clear h
  go_enter Tryz.func101, Tryz.ntmps101
  go_wp2_with fail
  refine IS.out.mono ?_
  rintro e w1 ⟨rfl, b1⟩
  have D1 := Lib.hid (HH.out.below b1)
  have K1 := Lib.hid (Kept.of_below (S := fun z => z = g) b1)
  clear b1 c2
  cases b
  · have FL := Lib.hid (fail_any g c A ts i w1 D1.out)
    go_wp2_with fail
    refine FL.out.mono ?_
    rintro e w2 ⟨er, her, rfl, d2, k2⟩
    have D2 := Lib.hid d2
    have K2 := Lib.hid (K1.out.then_ k2 (fun _ _ e => e))
    clear d2 k2
    go_wp2_with fail
    go_end0
    exact ⟨er, her, rfl, D2.out, K2.out⟩
  · have hm := HM.out rfl
    have y1 : w1.cell? ⟨g, 1, none⟩ = some (.int .i64 i) := D1.out.blk.cell 1
    have u1 := D1.out.blk.frozen 1
    have wi : IntKind.i64.wrap ((i : Int) + 1) = (i : Int) + 1 := IntWalk.i64_in _ ⟨by omega, by omega⟩
    have K5 := (Kept.refl (fun z => z = g) w1).setCell (p := ⟨g, 1, none⟩) (fun _ => rfl) (.int .i64 ((i : Int) + 1))
    have B5 : Blk (w1.setCell ⟨g, 1, none⟩ (.int .i64 ((i : Int) + 1))) g 105 #[.slice A ts.length c, .int .i64 ((i + 1 : Nat) : Int), .int .i64 0] := by
      have := D1.out.blk.set_ 1 (.int .i64 ((i : Int) + 1))
      simpa using this
    have D5 := Lib.hid (D1.out.put K5 (fun _ _ e => e) hm B5)
    have K6 := Lib.hid (K1.out.then_ K5 (fun _ _ e => e))
    clear K5 B5 hm
    go_wp2_with fail
    go_end0
    exact ⟨rfl, D5.out, K6.out⟩
/-- What a step that takes a token of kind k leaves: v is given, or an error is set. -/
def TakeTo (w : World) (g c : Nat) (A : Option Addr) (ts : List Tk) (ok : Bool) (v z : Value) (i : Nat) (e : Ending) (w' : World) : Prop :=
  if ok then DTo w g c A ts v (i + 1) 0 e w' else ∃ er, er ≠ 0 ∧ DTo w g c A ts z i er e w'
set_option maxHeartbeats 2000000 in
set_option maxRecDepth 100000 in
theorem rname_any (g c : Nat) (A : Option Addr) (ts : List Tk) (i : Nat) (w : World) (h : DP w g A c ts i 0) (t : Tk) (ht : ts[i]? = some t) :
    Calls Tryz.prog 102 #[.pointer (some ⟨g, 0, none⟩)] w (TakeTo w g c A ts (decide (t.kind = 1)) (.string (str t.text)) (.string ⟨#[]⟩) i) := by
  have NW := Lib.hid (now_any g c A ts i 0 w h t ht)
  have c2 : w.cell? ⟨g, 2, none⟩ = some (.int .i64 0) := h.blk.cell 2
  have HH := Lib.hid h
  have hlim := h.lim
  have hat := h.at_
  have HM := Lib.hid (fun (hk : t.kind = 1) => h.more t i ht (by rw [hk]; decide))
  clear h ht
  go_enter Tryz.func102, Tryz.ntmps102
  go_wp2_with fail
  refine NW.out.mono ?_
  rintro e w1 ⟨rfl, b1⟩
  have f2 : Below w.heap.size w (w1.alloc (.cells #[.int .i64 t.kind, .string (str t.text), .int .i64 t.n, .int .i64 t.line, .int .i64 t.col] 108)) := b1.al _
  have x2 := Blk.new w1 108 #[.int .i64 t.kind, .string (str t.text), .int .i64 t.n, .int .i64 t.line, .int .i64 t.col]
  have hgl : g < w1.heap.size := Nat.lt_of_lt_of_le HH.out.blk.lt b1.size
  go_upto_region 4 with fail
  generalize w1.alloc (.cells #[.int .i64 t.kind, .string (str t.text), .int .i64 t.n, .int .i64 t.line, .int .i64 t.col] 108) = W2 at *
  have D2 := Lib.hid (HH.out.below f2)
  have K2 := Lib.hid (Kept.of_below (S := fun z => z = g) f2)
  have X2 := Lib.hid x2
  have p0 : W2.cell? ⟨w1.heap.size, 0, none⟩ = some (.int .i64 t.kind) := x2.cell 0
  clear b1 f2 x2 c2
  by_cases hk : t.kind = 1
  · have hm := HM.out hk
    have ek : ((t.kind : Int) == 1) = true := by simp [hk]
    have y1 : W2.cell? ⟨g, 1, none⟩ = some (.int .i64 i) := D2.out.blk.cell 1
    have u1 := D2.out.blk.frozen 1
    have wi : IntKind.i64.wrap ((i : Int) + 1) = (i : Int) + 1 := IntWalk.i64_in _ ⟨by omega, by omega⟩
    have K5 := (Kept.refl (fun z => z = g) W2).setCell (p := ⟨g, 1, none⟩) (fun _ => rfl) (.int .i64 ((i : Int) + 1))
    have B5 : Blk (W2.setCell ⟨g, 1, none⟩ (.int .i64 ((i : Int) + 1))) g 105 #[.slice A ts.length c, .int .i64 ((i + 1 : Nat) : Int), .int .i64 0] := by
      have := D2.out.blk.set_ 1 (.int .i64 ((i : Int) + 1))
      simpa using this
    have D5 := Lib.hid (D2.out.put K5 (fun _ _ e => e) hm B5)
    have K6 := Lib.hid (K2.out.then_ K5 (fun _ _ e => e))
    have X5 := X2.out.kept K5 (by omega)
    have HD : Hid (decide (t.kind = 1) = true) := decide_eq_true hk
    clear K5 B5 hm hk
    go_upto_region 8 with fail
    generalize W2.setCell ⟨g, 1, none⟩ (.int .i64 ((i : Int) + 1)) = W5 at *
    have p1 : W5.cell? ⟨w1.heap.size, 1, none⟩ = some (.string (str t.text)) := X5.cell 1
    go_wp2_with fail
    go_ret
    unfold TakeTo
    rw [HD.out, if_pos rfl]
    exact ⟨rfl, D5.out, K6.out⟩
  · have ek : ((t.kind : Int) == 1) = false := by simp [hk]
    have HD : Hid (decide (t.kind = 1) = false) := decide_eq_false hk
    have FL := Lib.hid (fail_any g c A ts i W2 D2.out)
    clear hk
    go_wp2_with fail
    refine FL.out.mono ?_
    rintro e w3 ⟨er, her, rfl, d3, k3⟩
    have D3 := Lib.hid d3
    have K3 := Lib.hid (K2.out.then_ k3 (fun _ _ e => e))
    clear d3 k3
    go_wp2_with fail
    go_ret
    unfold TakeTo
    rw [HD.out, if_neg (by decide)]
    exact ⟨er, her, rfl, D3.out, K3.out⟩
set_option maxHeartbeats 2000000 in
set_option maxRecDepth 100000 in
theorem rnumber_any (g c : Nat) (A : Option Addr) (ts : List Tk) (i : Nat) (w : World) (h : DP w g A c ts i 0) (t : Tk) (ht : ts[i]? = some t) :
    Calls Tryz.prog 103 #[.pointer (some ⟨g, 0, none⟩)] w (TakeTo w g c A ts (decide (t.kind = 2)) (.int .i64 t.n) (.int .i64 0) i) := by
  have NW := Lib.hid (now_any g c A ts i 0 w h t ht)
  have c2 : w.cell? ⟨g, 2, none⟩ = some (.int .i64 0) := h.blk.cell 2
  have HH := Lib.hid h
  have hlim := h.lim
  have hat := h.at_
  have HM := Lib.hid (fun (hk : t.kind = 2) => h.more t i ht (by rw [hk]; decide))
  clear h ht
  go_enter Tryz.func103, Tryz.ntmps103
  go_wp2_with fail
  refine NW.out.mono ?_
  rintro e w1 ⟨rfl, b1⟩
  have f2 : Below w.heap.size w (w1.alloc (.cells #[.int .i64 t.kind, .string (str t.text), .int .i64 t.n, .int .i64 t.line, .int .i64 t.col] 108)) := b1.al _
  have x2 := Blk.new w1 108 #[.int .i64 t.kind, .string (str t.text), .int .i64 t.n, .int .i64 t.line, .int .i64 t.col]
  have hgl : g < w1.heap.size := Nat.lt_of_lt_of_le HH.out.blk.lt b1.size
  go_upto_region 4 with fail
  generalize w1.alloc (.cells #[.int .i64 t.kind, .string (str t.text), .int .i64 t.n, .int .i64 t.line, .int .i64 t.col] 108) = W2 at *
  have D2 := Lib.hid (HH.out.below f2)
  have K2 := Lib.hid (Kept.of_below (S := fun z => z = g) f2)
  have X2 := Lib.hid x2
  have p0 : W2.cell? ⟨w1.heap.size, 0, none⟩ = some (.int .i64 t.kind) := x2.cell 0
  clear b1 f2 x2 c2
  by_cases hk : t.kind = 2
  · have hm := HM.out hk
    have ek : ((t.kind : Int) == 2) = true := by simp [hk]
    have y1 : W2.cell? ⟨g, 1, none⟩ = some (.int .i64 i) := D2.out.blk.cell 1
    have u1 := D2.out.blk.frozen 1
    have wi : IntKind.i64.wrap ((i : Int) + 1) = (i : Int) + 1 := IntWalk.i64_in _ ⟨by omega, by omega⟩
    have K5 := (Kept.refl (fun z => z = g) W2).setCell (p := ⟨g, 1, none⟩) (fun _ => rfl) (.int .i64 ((i : Int) + 1))
    have B5 : Blk (W2.setCell ⟨g, 1, none⟩ (.int .i64 ((i : Int) + 1))) g 105 #[.slice A ts.length c, .int .i64 ((i + 1 : Nat) : Int), .int .i64 0] := by
      have := D2.out.blk.set_ 1 (.int .i64 ((i : Int) + 1))
      simpa using this
    have D5 := Lib.hid (D2.out.put K5 (fun _ _ e => e) hm B5)
    have K6 := Lib.hid (K2.out.then_ K5 (fun _ _ e => e))
    have X5 := X2.out.kept K5 (by omega)
    have HD : Hid (decide (t.kind = 2) = true) := decide_eq_true hk
    clear K5 B5 hm hk
    go_upto_region 8 with fail
    generalize W2.setCell ⟨g, 1, none⟩ (.int .i64 ((i : Int) + 1)) = W5 at *
    have p1 : W5.cell? ⟨w1.heap.size, 2, none⟩ = some (.int .i64 t.n) := X5.cell 2
    go_wp2_with fail
    go_ret
    unfold TakeTo
    rw [HD.out, if_pos rfl]
    exact ⟨rfl, D5.out, K6.out⟩
  · have ek : ((t.kind : Int) == 2) = false := by simp [hk]
    have HD : Hid (decide (t.kind = 2) = false) := decide_eq_false hk
    have FL := Lib.hid (fail_any g c A ts i W2 D2.out)
    clear hk
    go_wp2_with fail
    refine FL.out.mono ?_
    rintro e w3 ⟨er, her, rfl, d3, k3⟩
    have D3 := Lib.hid d3
    have K3 := Lib.hid (K2.out.then_ k3 (fun _ _ e => e))
    clear d3 k3
    go_wp2_with fail
    go_ret
    unfold TakeTo
    rw [HD.out, if_neg (by decide)]
    exact ⟨er, her, rfl, D3.out, K3.out⟩
set_option maxHeartbeats 2000000 in
set_option maxRecDepth 100000 in
theorem rbegins_any (g c : Nat) (A : Option Addr) (ts : List Tk) (i : Nat) (er : Int) (w : World) (h : DP w g A c ts i er) :
    Calls Tryz.prog 80 #[.pointer (some ⟨g, 0, none⟩)] w (Tells w (openT (ts.drop i))) := by
  obtain ⟨t, ht⟩ := h.one
  have NW := Lib.hid (now_any g c A ts i er w h t ht)
  have IS := Lib.hid (fun (s : ByteArray) (W : World) (hW : Below w.heap.size w W) => is_any g c A ts i er s W (h.below hW))
  have HO : Hid (openT (ts.drop i) = ((decide (t.kind = 2) || decide (t.kind = 1)) || hasT [40] (ts.drop i) || hasT [45] (ts.drop i) || hasT [110, 111, 116] (ts.drop i))) := by
    rw [drop_tok ht]
    rfl
  have h1 := Lib.hid (fun W hW => IS.out ⟨#[40]⟩ W hW)
  have h2 := Lib.hid (fun W hW => IS.out ⟨#[45]⟩ W hW)
  have h3 := Lib.hid (fun W hW => IS.out ⟨#[110, 111, 116]⟩ W hW)
  rw [show (⟨#[40]⟩ : ByteArray).data.toList = [40] from rfl] at h1
  rw [show (⟨#[45]⟩ : ByteArray).data.toList = [45] from rfl] at h2
  rw [show (⟨#[110, 111, 116]⟩ : ByteArray).data.toList = [110, 111, 116] from rfl] at h3
  generalize hasT [40] (ts.drop i) = c1 at *
  generalize hasT [45] (ts.drop i) = c2 at *
  generalize hasT [110, 111, 116] (ts.drop i) = c3 at *
  generalize openT (ts.drop i) = res at *
  clear h ht IS
  go_enter Tryz.func80, Tryz.ntmps80
  go_wp2_with fail
  refine NW.out.mono ?_
  rintro e w1 ⟨rfl, b1⟩
  have f2 := Lib.hid (b1.al (.cells #[.int .i64 t.kind, .string (str t.text), .int .i64 t.n, .int .i64 t.line, .int .i64 t.col] 108))
  by_cases k1 : t.kind = 1
  · have HR : Hid (res = true) := by rw [Hid, HO.out]; simp [k1]
    have e1 : ((t.kind : Int) == 1) = true := by simp [k1]
    clear k1
    go_wp2_with fail
    go_ret
    exact ⟨by rw [HR.out]; rfl, f2.out⟩
  have e1 : ((t.kind : Int) == 1) = false := by simp [k1]
  by_cases k2 : t.kind = 2
  · have HR : Hid (res = true) := by rw [Hid, HO.out]; simp [k2]
    have e2 : ((t.kind : Int) == 2) = true := by simp [k2]
    clear k1 k2
    go_wp2_with fail
    go_ret
    exact ⟨by rw [HR.out]; rfl, f2.out⟩
  have e2 : ((t.kind : Int) == 2) = false := by simp [k2]
  have HR : Hid (res = (c1 || c2 || c3)) := by rw [Hid, HO.out]; simp [k1, k2]
  clear k1 k2 HO
  have I1 := Lib.hid (h1.out _ f2.out)
  go_wp2_with fail
  refine I1.out.mono ?_
  rintro e w3 ⟨rfl, b3⟩
  have f3 := Lib.hid (f2.out.trans (b3.mono f2.out.size))
  clear b3 I1
  cases c1
  · have I2 := Lib.hid (h2.out _ f3.out)
    go_wp2_with fail
    refine I2.out.mono ?_
    rintro e w4 ⟨rfl, b4⟩
    have f4 := Lib.hid (f3.out.trans (b4.mono f3.out.size))
    clear b4 I2
    cases c2
    · have I3 := Lib.hid (h3.out _ f4.out)
      go_wp2_with fail
      refine I3.out.mono ?_
      rintro e w5 ⟨rfl, b5⟩
      have f5 := Lib.hid (f4.out.trans (b5.mono f4.out.size))
      clear b5 I3
      go_wp2_with fail
      go_ret
      exact ⟨by rw [HR.out]; rfl, f5.out⟩
    · go_wp2_with fail
      go_ret
      exact ⟨by rw [HR.out]; rfl, f4.out⟩
  · go_wp2_with fail
    go_ret
    exact ⟨by rw [HR.out]; rfl, f3.out⟩
end Go.Proofs.YtdgekckedchjbaaGreatDoor
