/- A closed fact of the card of MachineFull: the function starts no goroutine. -/
import Derived.Test.YtbckjaoljeimgaaGreatDoorRows
import Derived.ProofKit
import Derived.OpenShut
import Derived.SevenTiedAt
namespace Go.Proofs.YtbckjaoljeimgaaGreatDoor.machineFull
set_option maxRecDepth 100000
theorem c4 : false = Rows.machineFullRow.goesBy Tryz.prog := by kernel_rfl
theorem c5 : ([5].all fun u => !Tryz.prog.wantsStandIn u) = true := by kernel_rfl
theorem c6 : Tryz.prog.funcNamed "knapsack/knapsacklaw32.MachineFull" = some 3 := by kernel_rfl
end Go.Proofs.YtbckjaoljeimgaaGreatDoor.machineFull
