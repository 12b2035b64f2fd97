/- A closed fact of the row: named. -/
import Derived.Test.YtdbhonkahlcdoaaGreatDoorRows
import Derived.LaidByTextLater
import Derived.SevenTiedAt
import Derived.ProofKit
import Derived.OpenShut
namespace Go.Proofs.YtdbhonkahlcdoaaGreatDoor.builtinNames
open Go
set_option maxRecDepth 100000
theorem k13 : (Rows.builtinNamesRow.named == Tryz.prog.varsNamed 5) = true := by kernel_rfl
end Go.Proofs.YtdbhonkahlcdoaaGreatDoor.builtinNames
