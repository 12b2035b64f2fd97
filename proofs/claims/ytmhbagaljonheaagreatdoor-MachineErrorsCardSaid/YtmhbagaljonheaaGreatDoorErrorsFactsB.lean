/- Closed facts of the row of MachineErrors, one theorem each: recursion and the variables named. -/
import Derived.Test.YtmhbagaljonheaaGreatDoorRows
import Derived.ProofKit
import Derived.OpenShut
namespace Go.Proofs.YtmhbagaljonheaaGreatDoor.machineErrors
set_option maxRecDepth 100000
theorem k12 : (Rows.machineErrorsRow.recurses == Tryz.prog.recurses 3) = true := by kernel_rfl
theorem k13 : (Rows.machineErrorsRow.named == Tryz.prog.varsNamed 3) = true := by kernel_rfl
end Go.Proofs.YtmhbagaljonheaaGreatDoor.machineErrors
