/- Closed facts of the card of MachineDeep, one theorem each. -/
import Derived.Test.YtapognhadfncmaaGreatDoorRows
import Derived.ProofKit
import Derived.OpenShut
import Derived.SevenTiedAt
namespace Go.Proofs.YtapognhadfncmaaGreatDoor.machineDeep
set_option maxRecDepth 100000
theorem c1 : Rows.machineDeepRow.wfByText (OpenSpec.ofChange Rows.machineDeepSpec) = true := by kernel_rfl
theorem c2 : Tryz.prog.mainIs = some (true, "785e48d3e7d410e7a0eeb1d6e5852715feb8dedc4430c7a05bb8d7fd1bd546dc".toList) := by kernel_rfl
theorem c3 : true = Tryz.prog.looks [] := by kernel_rfl
end Go.Proofs.YtapognhadfncmaaGreatDoor.machineDeep
