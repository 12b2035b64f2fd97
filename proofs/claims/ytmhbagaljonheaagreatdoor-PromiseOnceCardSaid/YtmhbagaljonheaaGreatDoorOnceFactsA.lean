/- Closed facts of the row of PromiseOnce, one theorem each: what the function reaches. -/
import Derived.Test.YtmhbagaljonheaaGreatDoorRows
import Derived.ProofKit
import Derived.OpenShut
namespace Go.Proofs.YtmhbagaljonheaaGreatDoor.promiseOnce
set_option maxRecDepth 100000
theorem k10 : (Rows.promiseOnceRow.inPlace == Tryz.prog.inPlace 4) = true := by kernel_rfl
theorem k11 : (Rows.promiseOnceRow.unfollowed == Tryz.prog.unfollowed 4) = true := by kernel_rfl
end Go.Proofs.YtmhbagaljonheaaGreatDoor.promiseOnce
