/- A closed fact of the card of PromiseAwaits: the function starts no goroutine. -/
import Derived.Test.YtapognhadfncmaaGreatDoorRows
import Derived.ProofKit
import Derived.OpenShut
import Derived.SevenTiedAt
namespace Go.Proofs.YtapognhadfncmaaGreatDoor.promiseAwaits
set_option maxRecDepth 100000
theorem c4 : false = Rows.promiseAwaitsRow.goesBy Tryz.prog := by kernel_rfl
theorem c5 : ([5, 70, 5].all fun u => !Tryz.prog.wantsStandIn u) = true := by kernel_rfl
theorem c6 : Tryz.prog.funcNamed "knapsack/knapsacklaw33.PromiseAwaits" = some 5 := by kernel_rfl
end Go.Proofs.YtapognhadfncmaaGreatDoor.promiseAwaits
