/- Closed facts of the row of MachineFull, one theorem each: what the function reaches. -/
import Derived.Test.YtbckjaoljeimgaaGreatDoorRows
import Derived.ProofKit
import Derived.OpenShut
namespace Go.Proofs.YtbckjaoljeimgaaGreatDoor.machineFull
set_option maxRecDepth 100000
theorem k10 : (Rows.machineFullRow.inPlace == Tryz.prog.inPlace 3) = true := by kernel_rfl
theorem k11 : (Rows.machineFullRow.unfollowed == Tryz.prog.unfollowed 3) = true := by kernel_rfl
end Go.Proofs.YtbckjaoljeimgaaGreatDoor.machineFull
