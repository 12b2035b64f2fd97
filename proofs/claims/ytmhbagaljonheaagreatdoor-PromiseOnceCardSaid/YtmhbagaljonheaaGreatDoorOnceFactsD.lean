/- Closed facts of the card of PromiseOnce: the function starts no goroutine. -/
import Derived.Test.YtmhbagaljonheaaGreatDoorRows
import Derived.ProofKit
import Derived.OpenShut
import Derived.SevenTiedAt
namespace Go.Proofs.YtmhbagaljonheaaGreatDoor.promiseOnce
set_option maxRecDepth 100000
theorem c4 : false = Rows.promiseOnceRow.goesBy Tryz.prog := by kernel_rfl
theorem c5 : ([23, 23, 71].all fun u => !Tryz.prog.wantsStandIn u) = true := by kernel_rfl
theorem c6 : Tryz.prog.funcNamed "knapsack/knapsacklaw33.PromiseOnce" = some 4 := by kernel_rfl
end Go.Proofs.YtmhbagaljonheaaGreatDoor.promiseOnce
