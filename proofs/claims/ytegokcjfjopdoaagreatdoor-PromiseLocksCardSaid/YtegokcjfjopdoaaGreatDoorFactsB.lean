/- Closed facts of the row of PromiseLocks, one theorem each: recursion and the variables named. -/
import Derived.Test.YtegokcjfjopdoaaGreatDoorRows
import Derived.ProofKit
import Derived.OpenShut
namespace Go.Proofs.YtegokcjfjopdoaaGreatDoor.promiseLocks
set_option maxRecDepth 100000
theorem k12 : (Rows.promiseLocksRow.recurses == Tryz.prog.recurses 4) = true := by kernel_rfl
theorem k13 : (Rows.promiseLocksRow.named == Tryz.prog.varsNamed 4) = true := by kernel_rfl
end Go.Proofs.YtegokcjfjopdoaaGreatDoor.promiseLocks
