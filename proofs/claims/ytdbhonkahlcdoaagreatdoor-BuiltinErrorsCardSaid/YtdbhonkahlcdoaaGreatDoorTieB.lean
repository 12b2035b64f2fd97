/- The laid variables are named in their order. -/
import Derived.Test.YtdbhonkahlcdoaaGreatDoorRows
import Derived.LaidByTextLater
import Derived.SevenTiedAt
import Derived.ProofKit
import Derived.OpenShut
import Derived.Test.YtdbhonkahlcdoaaGreatDoorTieA
namespace Go.Proofs.YtdbhonkahlcdoaaGreatDoor
open Go
set_option maxRecDepth 100000
theorem t6 : varsNamedLaterB Tryz.prog (varsId Tryz.prog) tieL = true := by kernel_rfl
end Go.Proofs.YtdbhonkahlcdoaaGreatDoor
