/- The closed facts of the row, joined. -/
import Derived.Test.YtdbhonkahlcdoaaGreatDoorRows
import Derived.LaidByTextLater
import Derived.SevenTiedAt
import Derived.ProofKit
import Derived.OpenShut
import Derived.Stop.Joined
import Derived.Test.YtdbhonkahlcdoaaGreatDoorK10BuiltinNames
import Derived.Test.YtdbhonkahlcdoaaGreatDoorK11BuiltinNames
import Derived.Test.YtdbhonkahlcdoaaGreatDoorK12BuiltinNames
import Derived.Test.YtdbhonkahlcdoaaGreatDoorK13BuiltinNames
namespace Go.Proofs.YtdbhonkahlcdoaaGreatDoor.builtinNames
open Go
set_option maxRecDepth 100000
theorem closed : joinedFacts Tryz.prog 5 Tryz.f5 Rows.builtinNamesSpec Rows.builtinNamesRow = true := by
  unfold joinedFacts
  rw [k10, k11, k12, k13]
  kernel_rfl
end Go.Proofs.YtdbhonkahlcdoaaGreatDoor.builtinNames
