
/-
  LexNumbers: the walk.
-/
import Derived.Test.YtdmlnoeneoomfaaDoorL9
import Derived.Laws.IdiomStrings
import Derived.Lib.AppendStr
namespace Go.Proofs.YtdmlnoeneoomfaaDoor
open Go.RowKit

theorem str_append (a b : List UInt8) : str a ++ str b = str (a ++ b) := by
  apply ba_ext
  rw [str_list]
  simp [str]
theorem str_tl (l : List UInt8) : (str l).toList = l := by rw [tl_eq, str_list]
theorem str_size (l : List UInt8) : (str l).size = l.length := by rw [← size_list, str_list]

/-- string([]byte{x}). -/
theorem conv_one (W : World) (x : Int) (h0 : 0 ≤ x) (h1 : x ≤ 255) : (convert 106 9 (.slice (some ⟨W.heap.size, 0, none⟩) 1 1)).run Tryd.prog (W.alloc (.cells #[.int .u8 x] 5)) = .ok (.string (str [UInt8.ofNat x.toNat])) (W.alloc (.cells #[.int .u8 x] 5)) := by
  refine run_convert_bytes_back _ 106 9 5 ⟨W.heap.size, 0, none⟩ 1 [UInt8.ofNat x.toNat] Tryd.underlying106 Tryd.underlying5 Tryd.underlying9 ?_
  intro j hj
  match j, hj with
  | 0, _ =>
    have := (Blk.new W 5 #[.int .u8 x]).cell 0
    rw [Addr.add_lit]
    refine this.trans ?_
    simp [UInt8.toNat_ofNat']
    omega

/-- What the loop keeps: what is left, and the digits. -/
structure Dec (N m : Nat) (t : List UInt8) : Prop where
  dig : ∀ c ∈ t, digB c = true
  val : N = m * 10 ^ t.length + valD t
  head : t ≠ [] → m = 0 → t.length = 1 ∨ t.head? ≠ some 48
  few : t.length ≤ 11
theorem Dec.start (N : Nat) : Dec N N [] := ⟨by simp, by simp [valD], fun h => absurd rfl h, by simp⟩
theorem Dec.step {N m : Nat} {t : List UInt8} (h : Dec N m t) (hN : N < 100000000000) (hm : t = [] ∨ 0 < m) : Dec N (m / 10) (UInt8.ofNat (48 + m % 10) :: t) := by
  have hc : (UInt8.ofNat (48 + m % 10)).toNat = 48 + m % 10 := by rw [UInt8.toNat_ofNat']; omega
  have hv := h.val
  have hfew : t.length ≤ 10 := by
    rcases hm with rfl | hm
    · simp
    · rcases Nat.lt_or_ge t.length 11 with h1 | h1
      · omega
      · exfalso
        have h2 : 10 ^ 11 ≤ 10 ^ t.length := Nat.pow_le_pow_right (by omega) h1
        have h3 : 10 ^ t.length ≤ m * 10 ^ t.length := Nat.le_mul_of_pos_left _ hm
        have h4 : (10 : Nat) ^ 11 = 100000000000 := by decide
        omega
  refine ⟨?_, ?_, ?_, by simp; omega⟩
  · intro c hcm
    rcases List.mem_cons.1 hcm with rfl | h1
    · rw [digB_t, hc]; omega
    · exact h.dig c h1
  · rw [valD_cons, hc, List.length_cons, Nat.pow_succ, hv]
    have e : m = 10 * (m / 10) + m % 10 := by omega
    generalize 10 ^ t.length = p
    generalize valD t = v
    have e2 : m * p = (10 * (m / 10) + m % 10) * p := by rw [← e]
    rw [e2, Nat.add_mul]
    have e3 : 48 + m % 10 - 48 = m % 10 := by omega
    rw [e3, Nat.mul_comm p 10, ← Nat.mul_assoc, Nat.mul_comm (m / 10) 10]
    omega
  · intro _ hz
    rcases hm with rfl | hm
    · exact .inl (by simp)
    · right
      simp only [List.head?_cons, ne_eq, Option.some.injEq]
      intro he
      have := congrArg UInt8.toNat he
      rw [hc] at this
      simp at this
      omega

end Go.Proofs.YtdmlnoeneoomfaaDoor
