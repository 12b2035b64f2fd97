/- Closed facts of the row of PromiseAwaits, one theorem each: what the function reaches. -/
import Derived.Test.YtapognhadfncmaaGreatDoorRows
import Derived.ProofKit
import Derived.OpenShut
namespace Go.Proofs.YtapognhadfncmaaGreatDoor.promiseAwaits
set_option maxRecDepth 100000
theorem k10 : (Rows.promiseAwaitsRow.inPlace == Tryz.prog.inPlace 5) = true := by kernel_rfl
theorem k11 : (Rows.promiseAwaitsRow.unfollowed == Tryz.prog.unfollowed 5) = true := by kernel_rfl
end Go.Proofs.YtapognhadfncmaaGreatDoor.promiseAwaits
