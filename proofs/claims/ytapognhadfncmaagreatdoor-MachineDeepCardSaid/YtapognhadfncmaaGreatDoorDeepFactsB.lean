/- Closed facts of the row of MachineDeep, one theorem each: recursion and the variables named. -/
import Derived.Test.YtapognhadfncmaaGreatDoorRows
import Derived.ProofKit
import Derived.OpenShut
namespace Go.Proofs.YtapognhadfncmaaGreatDoor.machineDeep
set_option maxRecDepth 100000
theorem k12 : (Rows.machineDeepRow.recurses == Tryz.prog.recurses 3) = true := by kernel_rfl
theorem k13 : (Rows.machineDeepRow.named == Tryz.prog.varsNamed 3) = true := by kernel_rfl
end Go.Proofs.YtapognhadfncmaaGreatDoor.machineDeep
