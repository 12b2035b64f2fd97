/- A closed fact of the card of PromiseOrders: the function starts no goroutine. -/
import Derived.Test.YtlaoiglndjpojaaGreatDoorRows
import Derived.ProofKit
import Derived.OpenShut
import Derived.SevenTiedAt
namespace Go.Proofs.YtlaoiglndjpojaaGreatDoor.promiseOrders
set_option maxRecDepth 100000
theorem c4 : false = Rows.promiseOrdersRow.goesBy Tryz.prog := by kernel_rfl
theorem c5 : ([5, 5, 4].all fun u => !Tryz.prog.wantsStandIn u) = true := by kernel_rfl
theorem c6 : Tryz.prog.funcNamed "knapsack/knapsacklaw33.PromiseOrders" = some 3 := by kernel_rfl
end Go.Proofs.YtlaoiglndjpojaaGreatDoor.promiseOrders
