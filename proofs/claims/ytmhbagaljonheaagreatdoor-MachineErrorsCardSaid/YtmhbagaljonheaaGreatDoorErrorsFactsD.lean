/- Closed facts of the card of MachineErrors: the function starts no goroutine. -/
import Derived.Test.YtmhbagaljonheaaGreatDoorRows
import Derived.ProofKit
import Derived.OpenShut
import Derived.SevenTiedAt
namespace Go.Proofs.YtmhbagaljonheaaGreatDoor.machineErrors
set_option maxRecDepth 100000
theorem c4 : false = Rows.machineErrorsRow.goesBy Tryz.prog := by kernel_rfl
theorem c5 : ([3, 23, 24].all fun u => !Tryz.prog.wantsStandIn u) = true := by kernel_rfl
theorem c6 : Tryz.prog.funcNamed "knapsack/knapsacklaw32.MachineErrors" = some 3 := by kernel_rfl
end Go.Proofs.YtmhbagaljonheaaGreatDoor.machineErrors
