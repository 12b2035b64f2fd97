/- A closed fact of the card of PromiseLocks: the function starts no goroutine. -/
import Derived.Test.YtegokcjfjopdoaaGreatDoorRows
import Derived.ProofKit
import Derived.OpenShut
import Derived.SevenTiedAt
namespace Go.Proofs.YtegokcjfjopdoaaGreatDoor.promiseLocks
set_option maxRecDepth 100000
theorem c4 : false = Rows.promiseLocksRow.goesBy Tryz.prog := by kernel_rfl
theorem c5 : ([5, 21, 5].all fun u => !Tryz.prog.wantsStandIn u) = true := by kernel_rfl
theorem c6 : Tryz.prog.funcNamed "knapsack/knapsacklaw33.PromiseLocks" = some 4 := by kernel_rfl
end Go.Proofs.YtegokcjfjopdoaaGreatDoor.promiseLocks
