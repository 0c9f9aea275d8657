
/-
 The arguments of a law that are numbers or texts, opened.
-/
import Derived.Test.YtdgekckedchjbaaGreatDoorRows
import Derived.ProofKit
import Derived.OpenShut
import Derived.ShutString
import Derived.ChangeOld
namespace Go.Proofs.YtdgekckedchjbaaGreatDoor
open Go.ChangeShapes Go.WideShapes Go.ChangeAt Go.RowKit
open Go.ChangeMaps (open_string shut_string)
end Go.Proofs.YtdgekckedchjbaaGreatDoor
