/- Closed facts of the row of PromisePlays, one theorem each: what the function reaches, recursion and the variables named. -/
import Derived.Test.YtcceopgaiffkmaaGreatDoorRows
import Derived.ProofKit
import Derived.OpenShut
namespace Go.Proofs.YtcceopgaiffkmaaGreatDoor.promisePlays
set_option maxRecDepth 100000
theorem k10 : (Rows.promisePlaysRow.inPlace == Tryz.prog.inPlace 3) = true := by kernel_rfl
theorem k11 : (Rows.promisePlaysRow.unfollowed == Tryz.prog.unfollowed 3) = true := by kernel_rfl
theorem k12 : (Rows.promisePlaysRow.recurses == Tryz.prog.recurses 3) = true := by kernel_rfl
theorem k13 : (Rows.promisePlaysRow.named == Tryz.prog.varsNamed 3) = true := by kernel_rfl
end Go.Proofs.YtcceopgaiffkmaaGreatDoor.promisePlays
