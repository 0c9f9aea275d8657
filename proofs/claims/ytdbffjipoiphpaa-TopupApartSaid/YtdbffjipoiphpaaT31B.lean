/-
  TopupApart's walk, beside the numbers as they come in.
-/
import Derived.Test.YtdbffjipoiphpaaT28B
import Derived.Test.YtdbffjipoiphpaaT31
