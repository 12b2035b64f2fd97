/- A closed fact of the card of MachineLoops: the function starts no goroutine. -/
import Derived.Test.YtaikcgmgjchfmaaGreatDoorRows
import Derived.ProofKit
import Derived.OpenShut
import Derived.SevenTiedAt
namespace Go.Proofs.YtaikcgmgjchfmaaGreatDoor.machineLoops
set_option maxRecDepth 100000
theorem c4 : false = Rows.machineLoopsRow.goesBy Tryz.prog := by kernel_rfl
theorem c5 : ([5, 5, 5].all fun u => !Tryz.prog.wantsStandIn u) = true := by kernel_rfl
theorem c6 : Tryz.prog.funcNamed "knapsack/knapsacklaw32.MachineLoops" = some 3 := by kernel_rfl
end Go.Proofs.YtaikcgmgjchfmaaGreatDoor.machineLoops
