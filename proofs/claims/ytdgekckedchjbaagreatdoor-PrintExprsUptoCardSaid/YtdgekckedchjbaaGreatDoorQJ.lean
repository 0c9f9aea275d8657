
/-
  The parser of programs: a statement. (Printed by wip/tools/gens27.py.)
-/
import Derived.Test.YtdgekckedchjbaaGreatDoorQI
import Derived.Deep.RegionHeld3
namespace Go.Proofs.YtdgekckedchjbaaGreatDoor
open Go.RowKit

end Go.Proofs.YtdgekckedchjbaaGreatDoor
