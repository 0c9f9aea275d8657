/-
  Numbers of 16 bits, as they come in.
-/
import Derived.Test.YtdbffjipoiphpaaTOpen
import Derived.Test.YtdbffjipoiphpaaT26
namespace Go.Proofs.Ytdbffjipoiphpaa
open Go.RowKit
theorem range_u16 {a : Int} (h : (Lit.int .u16 a).wf = true) : 0 ≤ a ∧ a ≤ 65535 := by
  have := bounds_u16 h
  omega
end Go.Proofs.Ytdbffjipoiphpaa
