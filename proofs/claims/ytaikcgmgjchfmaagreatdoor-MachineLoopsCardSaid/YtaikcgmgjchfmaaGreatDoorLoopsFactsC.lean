/- Closed facts of the card of MachineLoops, one theorem each. -/
import Derived.Test.YtaikcgmgjchfmaaGreatDoorRows
import Derived.ProofKit
import Derived.OpenShut
import Derived.SevenTiedAt
namespace Go.Proofs.YtaikcgmgjchfmaaGreatDoor.machineLoops
set_option maxRecDepth 100000
theorem c1 : Rows.machineLoopsRow.wfByText (OpenSpec.ofChange Rows.machineLoopsSpec) = true := by kernel_rfl
theorem c2 : Tryz.prog.mainIs = some (true, "af7f07354714123183f047dbc3b79f7382ea9945e49603ad1dbac1fe4737a45b".toList) := by kernel_rfl
theorem c3 : true = Tryz.prog.looks [] := by kernel_rfl
end Go.Proofs.YtaikcgmgjchfmaaGreatDoor.machineLoops
