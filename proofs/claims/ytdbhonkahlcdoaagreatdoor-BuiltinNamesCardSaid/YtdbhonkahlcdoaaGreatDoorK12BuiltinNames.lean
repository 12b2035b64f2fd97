/- A closed fact of the row: recurses. -/
import Derived.Test.YtdbhonkahlcdoaaGreatDoorRows
import Derived.LaidByTextLater
import Derived.SevenTiedAt
import Derived.ProofKit
import Derived.OpenShut
namespace Go.Proofs.YtdbhonkahlcdoaaGreatDoor.builtinNames
open Go
set_option maxRecDepth 100000
theorem k12 : (Rows.builtinNamesRow.recurses == Tryz.prog.recurses 5) = true := by kernel_rfl
end Go.Proofs.YtdbhonkahlcdoaaGreatDoor.builtinNames
