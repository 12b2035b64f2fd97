/- Closed facts of the row of MachineHosts, one theorem each: what the function reaches. -/
import Derived.Test.YtaikcgmgjchfmaaGreatDoorRows
import Derived.ProofKit
import Derived.OpenShut
namespace Go.Proofs.YtaikcgmgjchfmaaGreatDoor.machineHosts
set_option maxRecDepth 100000
theorem k10 : (Rows.machineHostsRow.inPlace == Tryz.prog.inPlace 5) = true := by kernel_rfl
theorem k11 : (Rows.machineHostsRow.unfollowed == Tryz.prog.unfollowed 5) = true := by kernel_rfl
end Go.Proofs.YtaikcgmgjchfmaaGreatDoor.machineHosts
