
/-
  Arithmetic of the walks, in the walks' own spelling. No program is named here.
-/
import Derived.Laws.BitsAllLaws
import Derived.Laws.BitsLemmas
import Derived.Test.YtidppcaohkfnfaaNum
namespace Go.Proofs.Ytidppcaohkfnfaa

theorem i64_not_any (k : Int) (h1 : -9223372036854775808 ≤ k) (h2 : k ≤ 9223372036854775807) : bits .xor .i64 (-1) k = -1 - k := by
  show IntKind.i64.wrap ((BitVec.ofInt 64 (-1) ^^^ BitVec.ofInt 64 k).toNat : Int) = _
  have h3 : BitVec.ofInt 64 (-1) = BitVec.allOnes 64 := by decide
  rw [h3, BitVec.allOnes_xor, BitVec.toNat_not, BitVec.toNat_ofInt, IntKind.wrap_i64]
  omega

theorem wrap_u64_in (n : Int) (h0 : 0 ≤ n) (h1 : n < 18446744073709551616) : IntKind.u64.wrap n = n := by
  rw [IntKind.wrap_u64]
  omega
theorem wrap_i64_in (n : Int) (h0 : -9223372036854775808 ≤ n) (h1 : n ≤ 9223372036854775807) : IntKind.i64.wrap n = n := by
  rw [IntKind.wrap_i64]
  omega

/-- The number that tells one with a sign. -/
def fold (n : Int) : Nat := if n < 0 then (-2 * n - 1).toNat else (2 * n).toNat
/-- The number with a sign that a number tells. -/
def unfold_ (n : Nat) : Int := if n % 2 = 1 then -((n / 2 : Nat) : Int) - 1 else ((n / 2 : Nat) : Int)

theorem fold_lt {k : Int} (h1 : -9223372036854775808 ≤ k) (h2 : k ≤ 9223372036854775807) : fold k < 18446744073709551616 := by
  unfold fold; split <;> omega
theorem unfold_fold (k : Int) : unfold_ (fold k) = k := by
  unfold unfold_ fold
  split <;> split <;> omega

theorem or_one_even (x : Nat) : (2 * x) ||| 1 = 2 * x + 1 := by
  have := nat_join 1 (2 * x) 1 (by omega) (by omega)
  omega

theorem fold_neg (k : Int) (h0 : k < 0) (h1 : -9223372036854775808 ≤ k) :
    bits .or .u64 (IntKind.u64.wrap (IntKind.u64.wrap (bits .xor .i64 (-1) k) * 2)) 1 = (fold k : Int) := by
  rw [i64_not_any k h1 (by omega), wrap_u64_in (-1 - k) (by omega) (by omega), wrap_u64_in ((-1 - k) * 2) (by omega) (by omega)]
  obtain ⟨a, ha⟩ : ∃ a : Nat, (-1 - k) = (a : Int) := ⟨(-1 - k).toNat, by omega⟩
  have e : (-1 - k) * 2 = ((2 * a : Nat) : Int) := by omega
  rw [e]
  have h := u64_or_nat (2 * a) 1 (by omega) (by omega)
  refine h.trans ?_
  rw [or_one_even]
  unfold fold
  rw [if_pos h0]
  omega
theorem fold_pos (k : Int) (h0 : ¬ k < 0) : k * 2 = (fold k : Int) := by
  unfold fold
  rw [if_neg h0]
  omega
end Go.Proofs.Ytidppcaohkfnfaa
