/- A closed fact of the row: unfollowed. -/
import Derived.Test.YtdbhonkahlcdoaaGreatDoorRows
import Derived.LaidByTextLater
import Derived.SevenTiedAt
import Derived.ProofKit
import Derived.OpenShut
namespace Go.Proofs.YtdbhonkahlcdoaaGreatDoor.builtinErrors
open Go
set_option maxRecDepth 100000
theorem k11 : (Rows.builtinErrorsRow.unfollowed == Tryz.prog.unfollowed 4) = true := by kernel_rfl
end Go.Proofs.YtdbhonkahlcdoaaGreatDoor.builtinErrors
