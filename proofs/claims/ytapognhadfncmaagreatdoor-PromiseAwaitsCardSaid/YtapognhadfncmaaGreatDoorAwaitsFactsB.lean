/- Closed facts of the row of PromiseAwaits, one theorem each: recursion and the variables named. -/
import Derived.Test.YtapognhadfncmaaGreatDoorRows
import Derived.ProofKit
import Derived.OpenShut
namespace Go.Proofs.YtapognhadfncmaaGreatDoor.promiseAwaits
set_option maxRecDepth 100000
theorem k12 : (Rows.promiseAwaitsRow.recurses == Tryz.prog.recurses 5) = true := by kernel_rfl
theorem k13 : (Rows.promiseAwaitsRow.named == Tryz.prog.varsNamed 5) = true := by kernel_rfl
end Go.Proofs.YtapognhadfncmaaGreatDoor.promiseAwaits
