/- Closed facts of the card of PromisePlays, one theorem each. -/
import Derived.Test.YtcceopgaiffkmaaGreatDoorRows
import Derived.ProofKit
import Derived.OpenShut
import Derived.SevenTiedAt
namespace Go.Proofs.YtcceopgaiffkmaaGreatDoor.promisePlays
set_option maxRecDepth 100000
theorem c1 : Rows.promisePlaysRow.wfByText (OpenSpec.ofChange Rows.promisePlaysSpec) = true := by kernel_rfl
theorem c2 : Tryz.prog.mainIs = some (true, "a5433a4378f19fd4dd9286856c879a3dc346107171da8a413ab4d66bb524b8f0".toList) := by kernel_rfl
theorem c3 : true = Tryz.prog.looks [] := by kernel_rfl
theorem c4 : false = Rows.promisePlaysRow.goesBy Tryz.prog := by kernel_rfl
theorem c5 : ([22].all fun u => !Tryz.prog.wantsStandIn u) = true := by kernel_rfl
theorem c6 : Tryz.prog.funcNamed "knapsack/knapsacklaw33.PromisePlays" = some 3 := by kernel_rfl
end Go.Proofs.YtcceopgaiffkmaaGreatDoor.promisePlays
