/- Closed facts of the row of MachineFull, one theorem each: recursion and the variables named. -/
import Derived.Test.YtbckjaoljeimgaaGreatDoorRows
import Derived.ProofKit
import Derived.OpenShut
namespace Go.Proofs.YtbckjaoljeimgaaGreatDoor.machineFull
set_option maxRecDepth 100000
theorem k12 : (Rows.machineFullRow.recurses == Tryz.prog.recurses 3) = true := by kernel_rfl
theorem k13 : (Rows.machineFullRow.named == Tryz.prog.varsNamed 3) = true := by kernel_rfl
end Go.Proofs.YtbckjaoljeimgaaGreatDoor.machineFull
