/- A closed fact of the card of MachineDeep: the function starts no goroutine. -/
import Derived.Test.YtapognhadfncmaaGreatDoorRows
import Derived.ProofKit
import Derived.OpenShut
import Derived.SevenTiedAt
namespace Go.Proofs.YtapognhadfncmaaGreatDoor.machineDeep
set_option maxRecDepth 100000
theorem c4 : false = Rows.machineDeepRow.goesBy Tryz.prog := by kernel_rfl
theorem c5 : ([22, 5].all fun u => !Tryz.prog.wantsStandIn u) = true := by kernel_rfl
theorem c6 : Tryz.prog.funcNamed "knapsack/knapsacklaw32.MachineDeep" = some 3 := by kernel_rfl
end Go.Proofs.YtapognhadfncmaaGreatDoor.machineDeep
