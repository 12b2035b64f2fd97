/- Closed facts of the row of MachineDeep, one theorem each: what the function reaches. -/
import Derived.Test.YtapognhadfncmaaGreatDoorRows
import Derived.ProofKit
import Derived.OpenShut
namespace Go.Proofs.YtapognhadfncmaaGreatDoor.machineDeep
set_option maxRecDepth 100000
theorem k10 : (Rows.machineDeepRow.inPlace == Tryz.prog.inPlace 3) = true := by kernel_rfl
theorem k11 : (Rows.machineDeepRow.unfollowed == Tryz.prog.unfollowed 3) = true := by kernel_rfl
end Go.Proofs.YtapognhadfncmaaGreatDoor.machineDeep
