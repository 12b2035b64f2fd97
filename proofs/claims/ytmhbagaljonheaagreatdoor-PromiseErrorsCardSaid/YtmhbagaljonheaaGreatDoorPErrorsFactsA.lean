/- Closed facts of the row of PromiseErrors, one theorem each: what the function reaches. -/
import Derived.Test.YtmhbagaljonheaaGreatDoorRows
import Derived.ProofKit
import Derived.OpenShut
namespace Go.Proofs.YtmhbagaljonheaaGreatDoor.promiseErrors
set_option maxRecDepth 100000
theorem k10 : (Rows.promiseErrorsRow.inPlace == Tryz.prog.inPlace 5) = true := by kernel_rfl
theorem k11 : (Rows.promiseErrorsRow.unfollowed == Tryz.prog.unfollowed 5) = true := by kernel_rfl
end Go.Proofs.YtmhbagaljonheaaGreatDoor.promiseErrors
