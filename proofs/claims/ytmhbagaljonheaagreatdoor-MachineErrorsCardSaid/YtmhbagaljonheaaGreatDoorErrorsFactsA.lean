/- Closed facts of the row of MachineErrors, one theorem each: what the function reaches. -/
import Derived.Test.YtmhbagaljonheaaGreatDoorRows
import Derived.ProofKit
import Derived.OpenShut
namespace Go.Proofs.YtmhbagaljonheaaGreatDoor.machineErrors
set_option maxRecDepth 100000
theorem k10 : (Rows.machineErrorsRow.inPlace == Tryz.prog.inPlace 3) = true := by kernel_rfl
theorem k11 : (Rows.machineErrorsRow.unfollowed == Tryz.prog.unfollowed 3) = true := by kernel_rfl
end Go.Proofs.YtmhbagaljonheaaGreatDoor.machineErrors
