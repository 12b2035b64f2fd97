/- Closed facts of the row of PromiseLocks, one theorem each: what the function reaches. -/
import Derived.Test.YtegokcjfjopdoaaGreatDoorRows
import Derived.ProofKit
import Derived.OpenShut
namespace Go.Proofs.YtegokcjfjopdoaaGreatDoor.promiseLocks
set_option maxRecDepth 100000
theorem k10 : (Rows.promiseLocksRow.inPlace == Tryz.prog.inPlace 4) = true := by kernel_rfl
theorem k11 : (Rows.promiseLocksRow.unfollowed == Tryz.prog.unfollowed 4) = true := by kernel_rfl
end Go.Proofs.YtegokcjfjopdoaaGreatDoor.promiseLocks
