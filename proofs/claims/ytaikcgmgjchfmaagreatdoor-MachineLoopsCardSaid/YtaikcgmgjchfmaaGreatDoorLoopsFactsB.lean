/- Closed facts of the row of MachineLoops, one theorem each: recursion and the variables named. -/
import Derived.Test.YtaikcgmgjchfmaaGreatDoorRows
import Derived.ProofKit
import Derived.OpenShut
namespace Go.Proofs.YtaikcgmgjchfmaaGreatDoor.machineLoops
set_option maxRecDepth 100000
theorem k12 : (Rows.machineLoopsRow.recurses == Tryz.prog.recurses 3) = true := by kernel_rfl
theorem k13 : (Rows.machineLoopsRow.named == Tryz.prog.varsNamed 3) = true := by kernel_rfl
end Go.Proofs.YtaikcgmgjchfmaaGreatDoor.machineLoops
