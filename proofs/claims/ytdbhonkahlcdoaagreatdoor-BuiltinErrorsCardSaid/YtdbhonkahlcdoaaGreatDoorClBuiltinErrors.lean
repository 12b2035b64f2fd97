/- The closed facts of the row, joined. -/
import Derived.Test.YtdbhonkahlcdoaaGreatDoorRows
import Derived.LaidByTextLater
import Derived.SevenTiedAt
import Derived.ProofKit
import Derived.OpenShut
import Derived.Stop.Joined
import Derived.Test.YtdbhonkahlcdoaaGreatDoorK10BuiltinErrors
import Derived.Test.YtdbhonkahlcdoaaGreatDoorK11BuiltinErrors
import Derived.Test.YtdbhonkahlcdoaaGreatDoorK12BuiltinErrors
import Derived.Test.YtdbhonkahlcdoaaGreatDoorK13BuiltinErrors
namespace Go.Proofs.YtdbhonkahlcdoaaGreatDoor.builtinErrors
open Go
set_option maxRecDepth 100000
theorem closed : joinedFacts Tryz.prog 4 Tryz.f4 Rows.builtinErrorsSpec Rows.builtinErrorsRow = true := by
  unfold joinedFacts
  rw [k10, k11, k12, k13]
  kernel_rfl
end Go.Proofs.YtdbhonkahlcdoaaGreatDoor.builtinErrors
