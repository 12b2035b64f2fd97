/- Closed facts of the card. -/
import Derived.Test.YtdbhonkahlcdoaaGreatDoorRows
import Derived.LaidByTextLater
import Derived.SevenTiedAt
import Derived.ProofKit
import Derived.OpenShut
namespace Go.Proofs.YtdbhonkahlcdoaaGreatDoor.builtinErrors
open Go
set_option maxRecDepth 100000
theorem c1 : Rows.builtinErrorsRow.wfByText (OpenSpec.ofChange Rows.builtinErrorsSpec) = true := by kernel_rfl
theorem c2 : Tryz.prog.mainIs = some (true, "223cd9f3b59872e1e1b6f4ec2403e70d12c65a40920755c202bc7e7290273451".toList) := by kernel_rfl
theorem c3 : true = Tryz.prog.looks [] := by kernel_rfl
theorem c5 : ([5,22].all fun u => !Tryz.prog.wantsStandIn u) = true := by kernel_rfl
theorem c6 : Tryz.prog.funcNamed "knapsack/knapsacklaw34.BuiltinErrors" = some 4 := by kernel_rfl
end Go.Proofs.YtdbhonkahlcdoaaGreatDoor.builtinErrors
