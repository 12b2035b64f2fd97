/- Closed facts of the row of MachineLoops, one theorem each: what the function reaches. -/
import Derived.Test.YtaikcgmgjchfmaaGreatDoorRows
import Derived.ProofKit
import Derived.OpenShut
namespace Go.Proofs.YtaikcgmgjchfmaaGreatDoor.machineLoops
set_option maxRecDepth 100000
theorem k10 : (Rows.machineLoopsRow.inPlace == Tryz.prog.inPlace 3) = true := by kernel_rfl
theorem k11 : (Rows.machineLoopsRow.unfollowed == Tryz.prog.unfollowed 3) = true := by kernel_rfl
end Go.Proofs.YtaikcgmgjchfmaaGreatDoor.machineLoops
