/-
  The digest of a raise, the program's.
-/
import Derived.Test.YtdbffjipoiphpaaH7
import Derived.Test.YtdbffjipoiphpaaRef
import Derived.Test.YtdbffjipoiphpaaT17
namespace Go.Proofs.Ytdbffjipoiphpaa
open Go.RowKit

/-- What is put, as a slice. -/
def GotL (w : World) (l : List UInt8) (e : Ending) (w' : World) : Prop := ∃ A n c, e = .returned (.slice A n c) ∧ n ≤ c ∧ c ≤ 9223372036854775807 ∧ n = l.length ∧ RB w' A n l ∧ Below w.heap.size w w'
theorem Got.l {w w' : World} {l : List UInt8} {e : Ending} (h : Got w.heap.size w l e w') : GotL w l e w' := by
  obtain ⟨v, rfl, ho, hb⟩ := h
  obtain ⟨A, n, c, rfl, h1, h2, h3⟩ := ho.got
  exact ⟨A, n, c, rfl, h1, h2, h3.len, h3, hb⟩

/-- Eight bytes. -/
def tabL (d : Nat → Int) : List UInt8 := (List.range 8).map fun i => UInt8.ofNat (d i).toNat
theorem tabL_len (d : Nat → Int) : (tabL d).length = 8 := by simp [tabL]
theorem byte_of {x : Int} (h : 0 ≤ x ∧ x ≤ 255) : x = ((UInt8.ofNat x.toNat).toNat : Int) := by rw [UInt8.toNat_ofNat']; omega
theorem tabL_at (d : Nat → Int) (hd : By d) {j : Nat} (h : j < 8) : (B8 (tabL d))[j]? = some (.int .u8 (d j)) := by
  rw [B8_at (by rw [tabL_len]; exact h)]
  simp only [tabL, List.getElem_map, List.getElem_range]
  rw [← byte_of (hd j)]
/-- The bytes of numbers with a sign. -/
def intsL (l : List Int) : List UInt8 := l.flatMap fun x => num (fold x)
theorem intsL_snoc (l : List Int) (x : Int) : intsL (l ++ [x]) = intsL l ++ num (fold x) := by simp [intsL]
theorem intsL_len (l : List Int) (h : ∀ x ∈ l, -9223372036854775808 ≤ x ∧ x ≤ 9223372036854775807) : (intsL l).length ≤ 10 * l.length := by
  induction l with
  | nil => simp [intsL]
  | cons x l ih =>
    have h1 := ih (fun y hy => h y (List.mem_cons_of_mem _ hy))
    have h2 := num_le10 (fold_lt (h x (List.mem_cons_self ..)).1 (h x (List.mem_cons_self ..)).2)
    have : intsL (x :: l) = num (fold x) ++ intsL l := by simp [intsL]
    rw [this, List.length_append, List.length_cons]
    omega
def rb1 : List UInt8 := num 5 ++ [114, 97, 105, 115, 101]
def rb2 (d : Nat → Int) : List UInt8 := rb1 ++ (num 8 ++ tabL d)
def rb3 (d : Nat → Int) (nm : Int) : List UInt8 := rb2 d ++ num (fold nm)
def rb4 (d : Nat → Int) (nm : Int) (k : Nat) : List UInt8 := rb3 d nm ++ num k
/-- The bytes that are signed. -/
def rbytes (d : Nat → Int) (nm : Int) (adds : List Int) (till : Int) : List UInt8 := rb4 d nm adds.length ++ intsL adds ++ num (fold till)
theorem rb1_len : rb1.length ≤ 15 := by have := num_le10 (n := 5) (by omega); simp [rb1]; omega
theorem rb2_len (d : Nat → Int) : (rb2 d).length ≤ 33 := by have := num_le10 (n := 8) (by omega); have := rb1_len; have := tabL_len d; simp [rb2]; omega
theorem rb3_len (d : Nat → Int) (nm : Int) (h : -9223372036854775808 ≤ nm ∧ nm ≤ 9223372036854775807) : (rb3 d nm).length ≤ 43 := by have := num_le10 (fold_lt h.1 h.2); have := rb2_len d; simp [rb3]; omega
theorem rb4_len (d : Nat → Int) (nm : Int) (k : Nat) (h : -9223372036854775808 ≤ nm ∧ nm ≤ 9223372036854775807) (hk : k ≤ 100) : (rb4 d nm k).length ≤ 53 := by have := num_le10 (n := k) (by omega); have := rb3_len d nm h; simp [rb4]; omega

/-- A raise, as a value. -/
abbrev rvC (d : Nat → Int) (nm : Int) (A : Option Addr) (n c : Nat) (till : Int) : Array Value := #[.int .u8 (d 0), .int .u8 (d 1), .int .u8 (d 2), .int .u8 (d 3), .int .u8 (d 4), .int .u8 (d 5), .int .u8 (d 6), .int .u8 (d 7), .int .i64 nm, .slice A n c, .int .i64 till]
theorem rb_tab {w : World} {g : Nat} {t : TypeId} {d : Nat → Int} {nm : Int} {A : Option Addr} {n c : Nat} {till : Int} (h : Blk w g t (rvC d nm A n c till)) (hd : By d) : RB w (some ⟨g, 0, none⟩) 8 (tabL d) := by
  refine ⟨by rw [B8_length, tabL_len], fun _ => ⟨_, rfl, h.lt, fun j u hu => ?_⟩⟩
  have hj : j < 8 := by
    rcases Nat.lt_or_ge j 8 with h1 | h1
    · exact h1
    · rw [List.getElem?_eq_none (by rw [B8_length, tabL_len]; exact h1)] at hu; cases hu
  rw [tabL_at d hd hj] at hu
  injection hu with hu
  subst hu
  rw [Addr.add_lit, Nat.zero_add, h.cell]
  match j, hj with
  | 0, _ => rfl
  | 1, _ => rfl
  | 2, _ => rfl
  | 3, _ => rfl
  | 4, _ => rfl
  | 5, _ => rfl
  | 6, _ => rfl
  | 7, _ => rfl

set_option maxHeartbeats 4000000 in
set_option maxRecDepth 100000 in
theorem digest_any (d : Nat → Int) (nm till : Int) (A : Option Addr) (n c : Nat) (adds : List Int) (w : World) (hd : By d) (hnm : -9223372036854775808 ≤ nm ∧ nm ≤ 9223372036854775807) (htl : -9223372036854775808 ≤ till ∧ till ≤ 9223372036854775807) (hr : RI w A n adds) (hn : n ≤ 20) (ha : ∀ x ∈ adds, -9223372036854775808 ≤ x ∧ x ≤ 9223372036854775807) :
    Calls Try.prog 25 #[.agg (rvC d nm A n c till)] w fun e w' => e = .returned (dv (hashOf (rbytes d nm adds till))) ∧ Below w.heap.size w w' := by
  have HR := Lib.hid hr
  have HA := Lib.hid ha
  have HL := Lib.hid hr.len
  clear hr ha
  go_enter Try.func25, Try.ntmps25
  go_upto_region 1 with fail
  obtain ⟨y0, y1⟩ := blk_two w 33 31 (rvC d nm A n c till) zero8
  have f0 : Below w.heap.size w ((w.alloc (.cells (rvC d nm A n c till) 33)).alloc (.cells zero8 31)) := ((Below.refl _ w).al _).al _
  generalize (w.alloc (.cells (rvC d nm A n c till) 33)).alloc (.cells zero8 31) = W0 at *
  have HY0 := Lib.hid y0
  have HY1 := Lib.hid y1
  clear y0 y1
  go_wp2_with fail
  refine ((putText_any none 0 0 _ [] W0 RB.none_ (by decide)).mono fun _ _ h => Got.l h).mono ?_
  rintro e w1 ⟨A1, n1, c1, rfl, hc1, hm1, hn1, r1, b1⟩
  have hl1 : n1 ≤ 15 := by have := rb1_len; rw [hn1]; exact this
  have HY2 := Lib.hid (HY0.out.below b1 HY0.out.lt)
  have HZ2 := Lib.hid (HY1.out.below b1 HY1.out.lt)
  have f1 := f0.then_ b1
  clear HY0 HY1 f0 b1 hn1
  go_wp2_with fail
  refine ((putBytes_any A1 _ n1 c1 8 _ rb1 (tabL d) w1 r1 (rb_tab HY2.out hd) (by omega)).mono fun _ _ h => Got.l h).mono ?_
  rintro e w2 ⟨A2, n2, c2, rfl, hc2, hm2, hn2, r2, b2⟩
  have e2 : rb1 ++ num (tabL d).length ++ tabL d = rb2 d := by rw [tabL_len, rb2, List.append_assoc]
  rw [e2] at hn2 r2
  have hl2 : n2 ≤ 33 := by have := rb2_len d; omega
  have r2' := r2
  clear e2
  have HY3 := Lib.hid (HY2.out.below b2 HY2.out.lt)
  have HZ3 := Lib.hid (HZ2.out.below b2 HZ2.out.lt)
  have f2 := f1.then_ b2
  have k8 : w2.cell? ⟨w.heap.size, 8, none⟩ = some (.int .i64 nm) := HY3.out.cell 8
  clear HY2 HZ2 f1 b2 hn2 r2 r1
  go_wp2_with fail
  refine ((putInt_any A2 n2 c2 nm (rb2 d) w2 r2' hnm.1 hnm.2 (by omega)).mono fun _ _ h => Got.l h).mono ?_
  rintro e w3 ⟨A3, n3, c3, rfl, hc3, hm3, hn3, r3, b3⟩
  have hl3 : n3 ≤ 43 := by have := rb3_len d nm hnm; rw [hn3]; exact this
  have HY4 := Lib.hid (HY3.out.below b3 HY3.out.lt)
  have HZ4 := Lib.hid (HZ3.out.below b3 HZ3.out.lt)
  have f3 := f2.then_ b3
  clear k8 HY3 HZ3 f2 b3 hn3 r2'
  have k9 : w3.cell? ⟨w.heap.size, 9, none⟩ = some (.slice A n c) := HY4.out.cell 9
  go_wp2_with fail
  refine ((putNum_any A3 n3 c3 n (rb3 d nm) w3 r3 (by unfold U64; omega) (by omega)).mono fun _ _ h => Got.l h).mono ?_
  rintro e w4 ⟨A4, n4, c4, rfl, hc4, hm4, hn4, r4, b4⟩
  have hl4 : n4 ≤ 53 := by have := rb4_len d nm n hnm (by omega); rw [hn4]; exact this
  have HY5 := Lib.hid (HY4.out.below b4 HY4.out.lt)
  have HZ5 := Lib.hid (HZ4.out.below b4 HZ4.out.lt)
  have f4 := f3.then_ b4
  clear k9 HY4 HZ4 f3 b4 hn4 r3
  have k9 : w4.cell? ⟨w.heap.size, 9, none⟩ = some (.slice A n c) := HY5.out.cell 9
  have r5 : Hid (RB w4 A4 n4 (rb4 d nm n ++ intsL (adds.take 0))) := by rw [Hid]; have r4' : RB w4 A4 n4 (rb4 d nm n) := r4; simpa [intsL] using r4'
  go_wp2_with fail
  clear k9
  go_loopw [3, 24] (fun v i wr => ∃ (k : Nat) (A' : Option Addr) (n' c' : Nat), k ≤ n ∧ i = .int .i64 k ∧ v = .slice A' n' c' ∧ n' ≤ c' ∧ c' ≤ 9223372036854775807 ∧ n' ≤ 53 + 10 * k ∧ Hid (RB wr A' n' (rb4 d nm n ++ intsL (adds.take k))) ∧ Below w4.heap.size w4 wr) (fun _ i _ => n - (intOf i).toNat)
  case atStart => exact ⟨0, A4, n4, c4, by omega, rfl, rfl, hc4, hm4, by omega, r5, Below.refl _ _⟩
  case round =>
    clear r5 r4
    obtain ⟨k, A', n', c', hk, rfl, rfl, hc', hm', hn', r5, b5⟩ := hrel
    have f5 := f4.then_ b5
    by_cases hlt : k < n
    · obtain ⟨ba, oa, rfl, hba, hla, hca⟩ := (HR.out.below f5).at_ hlt
      have hx := HA.out _ (List.getElem_mem hla)
      have HT := Lib.hid (List.take_succ_eq_append_getElem hla)
      generalize adds[k] = x at *
      go_wp2_with fail
      refine ((putInt_any A' n' c' x _ wr r5.out hx.1 hx.2 (by omega)).mono fun _ _ h => Got.l h).mono ?_
      rintro e w6 ⟨A6, n6, c6, rfl, hc6, hm6, hn6, r6, b6⟩
      have hl6 : n6 ≤ 53 + 10 * (k + 1) := by
        have h1 := r5.out.len
        have h2 := num_le10 (fold_lt hx.1 hx.2)
        rw [hn6, List.length_append, ← h1]
        omega
      have r7 : Hid (RB w6 A6 n6 (rb4 d nm n ++ intsL (adds.take (k + 1)))) := by rw [Hid, HT.out, intsL_snoc, ← List.append_assoc]; exact r6
      clear r6 r5 hn6 hca HT
      go_wp2_with fail
      go_roundw
      case rel => exact ⟨k + 1, A6, n6, c6, by omega, by go_num, rfl, hc6, hm6, hl6, r7, b5.then_ b6⟩
      case measure => simp [intOf]; omega
    · obtain rfl : k = n := by omega
      have HY6 := Lib.hid (HY5.out.below b5 HY5.out.lt)
      have HZ6 := Lib.hid (HZ5.out.below b5 HZ5.out.lt)
      have k10 : wr.cell? ⟨w.heap.size, 10, none⟩ = some (.int .i64 till) := HY6.out.cell 10
      have r7 : Hid (RB wr A' n' (rb4 d nm k ++ intsL adds)) := by
        have := r5.out
        rw [List.take_of_length_le (by have := HL.out; omega)] at this
        exact this
      clear r5 HY5 HZ5
      go_wp2_with fail
      refine ((putInt_any A' n' c' till _ wr r7.out htl.1 htl.2 (by omega)).mono fun _ _ h => Got.l h).mono ?_
      rintro e w8 ⟨A8, n8, c8, rfl, hc8, hm8, hn8, r8, b8⟩
      have HE : Hid (rb4 d nm k ++ intsL adds ++ num (fold till) = rbytes d nm adds till) := by
        have := HL.out
        rw [Hid, rbytes, ← this]
      rw [HE.out] at r8
      have HZ8 := Lib.hid (HZ6.out.below b8 HZ6.out.lt)
      have f8 := f5.then_ b8
      clear k10 r7 HY6 HZ6 hn8
      go_wp2_with fail
      refine (hashOf_any A8 n8 c8 _ w8 r8 hc8 hm8).mono ?_
      rintro e w9 ⟨rfl, b9⟩
      have f9 := f8.then_ b9
      obtain ⟨⟨k0, k1, k2, k3, k4, k5, k6, k7⟩, q0, q1, q2, q3, q4, q5, q6, q7⟩ := (HZ8.out.below b9 HZ8.out.lt).eight
      go_wp2_with fail
      refine bodyPost_ret (v := dv (hashOf (rbytes d nm adds till))) (by simp [results, Try.results25, go_sem, k0, k1, k2, k3, k4, k5, k6, k7]) rfl ⟨rfl, ?_⟩
      exact Below.set8 f9 (by simp) _ _ _ _ _ _ _ _
end Go.Proofs.Ytdbffjipoiphpaa
