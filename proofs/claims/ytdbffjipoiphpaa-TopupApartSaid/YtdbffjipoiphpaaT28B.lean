/-
  Bytes, as they come in.
-/
import Derived.Test.YtdbffjipoiphpaaT26B
import Derived.Test.YtdbffjipoiphpaaT28
namespace Go.Proofs.Ytdbffjipoiphpaa
open Go.RowKit
theorem range_u8 {a : Int} (h : (Lit.int .u8 a).wf = true) : 0 ≤ a ∧ a ≤ 255 := bounds_u8 h
end Go.Proofs.Ytdbffjipoiphpaa
