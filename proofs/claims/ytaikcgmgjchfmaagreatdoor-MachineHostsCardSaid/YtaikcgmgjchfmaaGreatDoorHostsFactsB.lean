/- Closed facts of the row of MachineHosts, one theorem each: recursion and the variables named. -/
import Derived.Test.YtaikcgmgjchfmaaGreatDoorRows
import Derived.ProofKit
import Derived.OpenShut
namespace Go.Proofs.YtaikcgmgjchfmaaGreatDoor.machineHosts
set_option maxRecDepth 100000
theorem k12 : (Rows.machineHostsRow.recurses == Tryz.prog.recurses 5) = true := by kernel_rfl
theorem k13 : (Rows.machineHostsRow.named == Tryz.prog.varsNamed 5) = true := by kernel_rfl
end Go.Proofs.YtaikcgmgjchfmaaGreatDoor.machineHosts
