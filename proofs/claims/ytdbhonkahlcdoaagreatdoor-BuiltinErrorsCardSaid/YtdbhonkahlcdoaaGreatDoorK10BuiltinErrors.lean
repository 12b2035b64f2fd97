/- A closed fact of the row: inPlace. -/
import Derived.Test.YtdbhonkahlcdoaaGreatDoorRows
import Derived.LaidByTextLater
import Derived.SevenTiedAt
import Derived.ProofKit
import Derived.OpenShut
namespace Go.Proofs.YtdbhonkahlcdoaaGreatDoor.builtinErrors
open Go
set_option maxRecDepth 100000
theorem k10 : (Rows.builtinErrorsRow.inPlace == Tryz.prog.inPlace 4) = true := by kernel_rfl
end Go.Proofs.YtdbhonkahlcdoaaGreatDoor.builtinErrors
