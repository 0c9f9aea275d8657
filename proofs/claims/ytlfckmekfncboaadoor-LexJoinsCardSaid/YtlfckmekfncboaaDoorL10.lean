/-
  LexNumbers: the walk.
-/
import Derived.Test.YtlfckmekfncboaaDoorL9
import Derived.Laws.IdiomStrings
import Derived.Lib.AppendStr
namespace Go.Proofs.YtlfckmekfncboaaDoor
open Go.RowKit

theorem str_append (a b : List UInt8) : str a ++ str b = str (a ++ b) := by
  apply ba_ext
  rw [str_list]
  simp [str]
theorem str_tl (l : List UInt8) : (str l).toList = l := by rw [tl_eq, str_list]
theorem str_size (l : List UInt8) : (str l).size = l.length := by rw [← size_list, str_list]

/-- string([]byte{x}). -/
theorem conv_one (W : World) (x : Int) (h0 : 0 ≤ x) (h1 : x ≤ 255) : (convert 37 9 (.slice (some ⟨W.heap.size, 0, none⟩) 1 1)).run Tryd.prog (W.alloc (.cells #[.int .u8 x] 5)) = .ok (.string (str [UInt8.ofNat x.toNat])) (W.alloc (.cells #[.int .u8 x] 5)) := by
  refine run_convert_bytes_back _ 37 9 5 ⟨W.heap.size, 0, none⟩ 1 [UInt8.ofNat x.toNat] Tryd.underlying37 Tryd.underlying5 Tryd.underlying9 ?_
  intro j hj
  match j, hj with
  | 0, _ =>
    have := (Blk.new W 5 #[.int .u8 x]).cell 0
    rw [Addr.add_lit]
    refine this.trans ?_
    simp [UInt8.toNat_ofNat']
    omega

/-- What the loop keeps: what is left, and the digits. -/
structure Dec (N m : Nat) (t : List UInt8) : Prop where
  dig : ∀ c ∈ t, digB c = true
  val : N = m * 10 ^ t.length + valD t
  head : t ≠ [] → m = 0 → t.length = 1 ∨ t.head? ≠ some 48
  few : t.length ≤ 11
theorem Dec.start (N : Nat) : Dec N N [] := ⟨by simp, by simp [valD], fun h => absurd rfl h, by simp⟩
theorem Dec.step {N m : Nat} {t : List UInt8} (h : Dec N m t) (hN : N < 100000000000) (hm : t = [] ∨ 0 < m) : Dec N (m / 10) (UInt8.ofNat (48 + m % 10) :: t) := by
  have hc : (UInt8.ofNat (48 + m % 10)).toNat = 48 + m % 10 := by rw [UInt8.toNat_ofNat']; omega
  have hv := h.val
  have hfew : t.length ≤ 10 := by
    rcases hm with rfl | hm
    · simp
    · rcases Nat.lt_or_ge t.length 11 with h1 | h1
      · omega
      · exfalso
        have h2 : 10 ^ 11 ≤ 10 ^ t.length := Nat.pow_le_pow_right (by omega) h1
        have h3 : 10 ^ t.length ≤ m * 10 ^ t.length := Nat.le_mul_of_pos_left _ hm
        have h4 : (10 : Nat) ^ 11 = 100000000000 := by decide
        omega
  refine ⟨?_, ?_, ?_, by simp; omega⟩
  · intro c hcm
    rcases List.mem_cons.1 hcm with rfl | h1
    · rw [digB_t, hc]; omega
    · exact h.dig c h1
  · rw [valD_cons, hc, List.length_cons, Nat.pow_succ, hv]
    have e : m = 10 * (m / 10) + m % 10 := by omega
    generalize 10 ^ t.length = p
    generalize valD t = v
    have e2 : m * p = (10 * (m / 10) + m % 10) * p := by rw [← e]
    rw [e2, Nat.add_mul]
    have e3 : 48 + m % 10 - 48 = m % 10 := by omega
    rw [e3, Nat.mul_comm p 10, ← Nat.mul_assoc, Nat.mul_comm (m / 10) 10]
    omega
  · intro _ hz
    rcases hm with rfl | hm
    · exact .inl (by simp)
    · right
      simp only [List.head?_cons, ne_eq, Option.some.injEq]
      intro he
      have := congrArg UInt8.toNat he
      rw [hc] at this
      simp at this
      omega

set_option maxHeartbeats 4000000 in
set_option maxRecDepth 100000 in
theorem numbers_walk (n : Nat) (w : World) (hn : n < 18446744073709551616) (hT : Spaces w) :
    Calls Tryd.prog 5 #[.int .u64 n] w (Tells w true) := by
  obtain ⟨N, hN⟩ : ∃ N, N = n % 100000000000 := ⟨_, rfl⟩
  have hNl : N < 100000000000 := by omega
  have hrem : ((n : Int) % 100000000000) = (N : Int) := by omega
  go_enter Tryd.func5, Tryd.ntmps5
  go_wp2_with fail
  rw [hrem]
  clear hrem hN
  go_loopw [3, 4] (fun d rest wr => ∃ (m : Nat) (t : List UInt8), m ≤ N ∧ rest = .int .u64 m ∧ d = .string (str t) ∧ Hid (Dec N m t) ∧ Below w.heap.size w wr) (fun d rest _ => (match d with | .string s => if s.size = 0 then 1 else 0 | _ => 0) + (intOf rest).toNat)
  case atStart => exact ⟨N, [], by omega, rfl, rfl, Dec.start N, Below.refl _ _⟩
  case round =>
    obtain ⟨m, t, hmN, rfl, rfl, hd, hb⟩ := hrel
    obtain ⟨S, hS⟩ : ∃ S, str t = S := ⟨_, rfl⟩
    have hSl : S.toList = t := by rw [← hS, str_tl]
    have hSz : S.size ≤ 11 := by rw [← hS, str_size]; exact hd.out.few
    have z1 : ¬ (9223372036854775807 < 1 + S.size) := by omega
    have z2 : ¬ (9223372036854775807 < 2 + S.size) := by omega
    have z3 : ¬ (9223372036854775807 < S.size + 1) := by omega
    by_cases hgo : t = [] ∨ 0 < m
    · have hst := hd.out.step hNl hgo
      have hcv := conv_one wr (48 + (m : Int) % 10) (by omega) (by omega)
      have hx : UInt8.ofNat ((48 + (m : Int) % 10)).toNat = UInt8.ofNat (48 + m % 10) := by congr 1
      rw [hx] at hcv
      obtain ⟨c, hc⟩ : ∃ c, UInt8.ofNat (48 + m % 10) = c := ⟨_, rfl⟩
      have hap := str_append [c] t
      rw [hc] at hcv hst
      rw [hS] at hap
      have HST := Lib.hid hst
      have HAP := Lib.hid hap
      have HC := Lib.hid hc
      clear hst hx hap hc
      have hms : ∀ x : Nat, (match Value.string (str [c] ++ S) with | Value.string s => if s.size = 0 then 1 else 0 | _ => 0) = 0 := fun _ => by
        simp only
        rw [HAP.out, if_neg (by rw [str_size]; simp)]
      have HMS := Lib.hid hms
      have hmo : (match Value.string S with | Value.string s => if s.size = 0 then 1 else 0 | _ => 0) = if t = [] then 1 else 0 := by
        simp only
        rw [← hS, str_size]
        simp
      have HMO := Lib.hid hmo
      clear hms hmo
      have HS := Lib.hid hS
      rw [hS]
      clear hS
      by_cases ht : t = []
      · have e1 : S.toList = [] := by rw [hSl, ht]
        have e3 : S.toList.isEmpty = true := by rw [e1]; rfl
        clear hSl
        go_wp2_with fail
        go_roundw
        case rel => exact ⟨m / 10, c :: t, by omega, by go_num, by rw [HAP.out]; rfl, HST, hb.then_ ((Below.refl _ _).al _)⟩
        case measure => rw [HMS.out 0, HMO.out, if_pos ht]; simp [intOf]; omega
      · have e1 : ¬ S.toList = [] := by rw [hSl]; exact ht
        have e3 : S.toList.isEmpty = false := by rw [hSl]; simpa using ht
        have e2 : (0 : Int) < m := by have := hgo.resolve_left ht; omega
        clear hSl
        go_wp2_with fail
        go_roundw
        case rel => exact ⟨m / 10, c :: t, by omega, by go_num, by rw [HAP.out]; rfl, HST, hb.then_ ((Below.refl _ _).al _)⟩
        case measure => rw [HMS.out 0, HMO.out, if_neg ht]; simp [intOf]; omega
    · have e1 : ¬ S.toList = [] := by rw [hSl]; exact fun h => hgo (.inl h)
      have e3 : S.toList.isEmpty = false := by rw [hSl]; simpa using fun h => hgo (.inl h)
      have e0 : m = 0 := by rcases Nat.eq_zero_or_pos m with h | h; exact h; exact absurd (.inr h) hgo
      subst e0
      have ht : t ≠ [] := fun h => hgo (.inl h)
      have hv : valD t = N := by have := hd.out.val; omega
      have hdg := hd.out.dig
      have hh := hd.out.head ht rfl
      have hns := numS_dig hdg ht (fun h1 => by rcases hh with h | h; omega; exact h)
      rw [hv] at hns
      have l1 := lex_num1 hdg ht
      have L2 := Lib.hid (lex_num2 hdg ht)
      have L3 := Lib.hid (lex_num3 hdg ht)
      have a1 : (⟨#[120, 32]⟩ : ByteArray) ++ S = str (120 :: 32 :: t) := by rw [← hS]; exact str_append [120, 32] t
      have a2 : (⟨#[48]⟩ : ByteArray) ++ S = str (48 :: t) := by rw [← hS]; exact str_append [48] t
      have a3 : S ++ (⟨#[97]⟩ : ByteArray) = str (t ++ [97]) := by rw [← hS]; exact str_append t [97]
      have A1 := Lib.hid a1
      have A2 := Lib.hid a2
      have A3 := Lib.hid a3
      have hf := hd.out.few
      have HT := Lib.hid hT
      have HS := Lib.hid hS
      rw [hS]
      clear a1 a2 a3 hSl hd hh hdg hv hT
      by_cases hbig : N ≤ 2147483647
      · rw [if_pos hbig] at hns
        rw [hns, if_neg (by simp)] at l1
        have L1 := Lib.hid l1
        have zb : ¬ ((2147483647 : Int) < N) := by omega
        have zw : IntKind.i64.wrap (N : Int) = N := by rw [IntKind.wrap_i64]; omega
        clear l1 hns hbig hS
        go_wp2_with fail
        rw [A1.out]
        refine (tokens_any _ _ (HT.out.below hb) (by rw [str_size]; simp; omega)).mono ?_
        intro e w1 hp
        obtain ⟨A, c, rfl, o1, b1⟩ := tok_ok (by rw [str_list]; exact L1.out) hp
        have f1 := hb.then_ b1
        have O1 := Lib.hid o1
        clear hp o1
        go_wp2_with fail
        rw [A2.out]
        refine (tokens_any _ _ (HT.out.below (f1.al _)) (by rw [str_size]; simp; omega)).mono ?_
        intro e w3 hp
        obtain ⟨rfl, b3⟩ := tok_err (by rw [str_list]; exact L2.out) hp
        have f3 := (f1.al _).then_ b3
        have O3 := Lib.hid ((O1.out.below_ ((Below.refl _ w1).al _)).below_ b3)
        clear hp
        go_wp2_with fail
        rw [A3.out]
        refine (tokens_any _ _ (HT.out.below (f3.al _)) (by rw [str_size]; simp; omega)).mono ?_
        intro e w5 hp
        obtain ⟨rfl, b5⟩ := tok_err (by rw [str_list]; exact L3.out) hp
        have f5 := ((f3.al _).then_ b5).al (.cells #[.int .i64 1, .int .i64 1] 24)
        have c1 : (w5.alloc (.cells #[.int .i64 1, .int .i64 1] 24)).cell? ⟨w3.heap.size, 0, none⟩ = some (.int .i64 1) := by
          have := (Blk.alloc (Blk.below (Blk.new w3 24 #[.int .i64 1, .int .i64 1]) b5 (Blk.lt (Blk.new w3 24 #[.int .i64 1, .int .i64 1]))) (.cells #[.int .i64 1, .int .i64 1] 24)).cell 0
          exact this
        have c2 : (w5.alloc (.cells #[.int .i64 1, .int .i64 1] 24)).cell? ⟨w3.heap.size, 1, none⟩ = some (.int .i64 1) := by
          have := (Blk.alloc (Blk.below (Blk.new w3 24 #[.int .i64 1, .int .i64 1]) b5 (Blk.lt (Blk.new w3 24 #[.int .i64 1, .int .i64 1]))) (.cells #[.int .i64 1, .int .i64 1] 24)).cell 1
          exact this
        have O5 := Lib.hid ((O3.out.below_ ((Below.refl _ w3).al (.cells #[.int .i64 1, .int .i64 1] 24))).below_ b5)
        clear hp
        go_wp2_with (go_at_call 11; refine (known_any _ (HT.out.below f5)).mono ?_; rintro e w7 ⟨rfl, b7⟩; have f7 := f5.then_ b7; have O7 := Lib.hid ((O5.out.below_ ((Below.refl _ w5).al (.cells #[.int .i64 1, .int .i64 1] 24))).below_ b7); obtain ⟨g, rfl, _, hgl, _, hc1, hc2, cells⟩ := O7.out.addr (by simp); have m5 : w7.cell? ⟨g, 5, none⟩ = some (.int .i64 2) := cells 5 _ rfl; have m6 : w7.cell? ⟨g, 6, none⟩ = some (.string S) := (cells 6 _ rfl).trans (by rw [HS.out]); have m7 : w7.cell? ⟨g, 7, none⟩ = some (.int .i64 N) := cells 7 _ rfl; have m8 : w7.cell? ⟨g, 8, none⟩ = some (.int .i64 1) := cells 8 _ rfl; have m9 : w7.cell? ⟨g, 9, none⟩ = some (.int .i64 3) := cells 9 _ rfl; clear cells)
        go_ret
        exact ⟨rfl, f7⟩
      · rw [if_neg hbig] at hns
        rw [hns, if_pos (by simp)] at l1
        have L1 := Lib.hid l1
        have zb : (2147483647 : Int) < N := by omega
        clear l1 hns hbig hS
        go_wp2_with fail
        rw [A1.out]
        refine (tokens_any _ _ (HT.out.below hb) (by rw [str_size]; simp; omega)).mono ?_
        intro e w1 hp
        obtain ⟨rfl, b1⟩ := tok_err (by rw [str_list]; exact L1.out) hp
        have f1 := hb.then_ b1
        have P1 := Lib.hid (Blk.new w1 24 #[.int .i64 1, .int .i64 3])
        have hl1 := Lib.hid (Blk.lt P1.out)
        clear hp
        go_wp2_with fail
        rw [A2.out]
        refine (tokens_any _ _ (HT.out.below (f1.al _)) (by rw [str_size]; simp; omega)).mono ?_
        intro e w3 hp
        obtain ⟨rfl, b3⟩ := tok_err (by rw [str_list]; exact L2.out) hp
        have f3 := (f1.al _).then_ b3
        have Q1 := Lib.hid (Blk.below P1.out b3 hl1.out)
        clear hp
        go_wp2_with fail
        rw [A3.out]
        refine (tokens_any _ _ (HT.out.below (f3.al _)) (by rw [str_size]; simp; omega)).mono ?_
        intro e w5 hp
        obtain ⟨rfl, b5⟩ := tok_err (by rw [str_list]; exact L3.out) hp
        have f5 := ((f3.al _).then_ b5).al (.cells #[.int .i64 1, .int .i64 1] 24)
        have R1 := Lib.hid (Blk.alloc (Blk.below (Blk.alloc Q1.out (.cells #[.int .i64 1, .int .i64 1] 24)) b5 (Blk.lt (Blk.alloc Q1.out _))) (.cells #[.int .i64 1, .int .i64 1] 24))
        have c1 : (w5.alloc (.cells #[.int .i64 1, .int .i64 1] 24)).cell? ⟨w3.heap.size, 0, none⟩ = some (.int .i64 1) := by
          have := (Blk.alloc (Blk.below (Blk.new w3 24 #[.int .i64 1, .int .i64 1]) b5 (Blk.lt (Blk.new w3 24 #[.int .i64 1, .int .i64 1]))) (.cells #[.int .i64 1, .int .i64 1] 24)).cell 0
          exact this
        have c2 : (w5.alloc (.cells #[.int .i64 1, .int .i64 1] 24)).cell? ⟨w3.heap.size, 1, none⟩ = some (.int .i64 1) := by
          have := (Blk.alloc (Blk.below (Blk.new w3 24 #[.int .i64 1, .int .i64 1]) b5 (Blk.lt (Blk.new w3 24 #[.int .i64 1, .int .i64 1]))) (.cells #[.int .i64 1, .int .i64 1] 24)).cell 1
          exact this
        clear hp
        go_wp2_with (go_at_call 11; refine (known_any _ (HT.out.below f5)).mono ?_; rintro e w7 ⟨rfl, b7⟩; have f7 := f5.then_ b7; have S1 := Blk.below R1.out b7 (Blk.lt R1.out); have q1 : w7.cell? ⟨w1.heap.size, 0, none⟩ = some (.int .i64 1) := S1.cell 0; have q2 : w7.cell? ⟨w1.heap.size, 1, none⟩ = some (.int .i64 3) := S1.cell 1; clear S1)
        go_ret
        exact ⟨rfl, f7⟩
end Go.Proofs.YtlfckmekfncboaaDoor
