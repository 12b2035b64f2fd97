/- A closed fact of the row: unfollowed. -/
import Derived.Test.YtdbhonkahlcdoaaGreatDoorRows
import Derived.LaidByTextLater
import Derived.SevenTiedAt
import Derived.ProofKit
import Derived.OpenShut
namespace Go.Proofs.YtdbhonkahlcdoaaGreatDoor.builtinNames
open Go
set_option maxRecDepth 100000
theorem k11 : (Rows.builtinNamesRow.unfollowed == Tryz.prog.unfollowed 5) = true := by kernel_rfl
end Go.Proofs.YtdbhonkahlcdoaaGreatDoor.builtinNames
