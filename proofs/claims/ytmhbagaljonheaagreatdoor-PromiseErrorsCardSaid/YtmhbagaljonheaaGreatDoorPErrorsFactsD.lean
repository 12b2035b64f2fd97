/- Closed facts of the card of PromiseErrors: the function starts no goroutine. -/
import Derived.Test.YtmhbagaljonheaaGreatDoorRows
import Derived.ProofKit
import Derived.OpenShut
import Derived.SevenTiedAt
namespace Go.Proofs.YtmhbagaljonheaaGreatDoor.promiseErrors
set_option maxRecDepth 100000
theorem c4 : false = Rows.promiseErrorsRow.goesBy Tryz.prog := by kernel_rfl
theorem c5 : ([23, 3, 54].all fun u => !Tryz.prog.wantsStandIn u) = true := by kernel_rfl
theorem c6 : Tryz.prog.funcNamed "knapsack/knapsacklaw33.PromiseErrors" = some 5 := by kernel_rfl
end Go.Proofs.YtmhbagaljonheaaGreatDoor.promiseErrors
