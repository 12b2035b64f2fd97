/- Closed facts of the card of PromiseChains, one theorem each. -/
import Derived.Test.YtbckjaoljeimgaaGreatDoorRows
import Derived.ProofKit
import Derived.OpenShut
import Derived.SevenTiedAt
namespace Go.Proofs.YtbckjaoljeimgaaGreatDoor.promiseChains
set_option maxRecDepth 100000
theorem c1 : Rows.promiseChainsRow.wfByText (OpenSpec.ofChange Rows.promiseChainsSpec) = true := by kernel_rfl
theorem c2 : Tryz.prog.mainIs = some (true, "5be27dadfe86adbadf9519445363520cc479fddbc4d89ae026e2c639f6aeb857".toList) := by kernel_rfl
theorem c3 : true = Tryz.prog.looks [] := by kernel_rfl
theorem c4 : false = Rows.promiseChainsRow.goesBy Tryz.prog := by kernel_rfl
theorem c5 : ([21, 65].all fun u => !Tryz.prog.wantsStandIn u) = true := by kernel_rfl
theorem c6 : Tryz.prog.funcNamed "knapsack/knapsacklaw33.PromiseChains" = some 4 := by kernel_rfl
end Go.Proofs.YtbckjaoljeimgaaGreatDoor.promiseChains
