/- Closed facts of the card of PromiseLocks, one theorem each. -/
import Derived.Test.YtegokcjfjopdoaaGreatDoorRows
import Derived.ProofKit
import Derived.OpenShut
import Derived.SevenTiedAt
namespace Go.Proofs.YtegokcjfjopdoaaGreatDoor.promiseLocks
set_option maxRecDepth 100000
theorem c1 : Rows.promiseLocksRow.wfByText (OpenSpec.ofChange Rows.promiseLocksSpec) = true := by kernel_rfl
theorem c2 : Tryz.prog.mainIs = some (true, "49219d140e4d04aac074dff9863523959b51c5c8c46d6828c5df8be418733035".toList) := by kernel_rfl
theorem c3 : true = Tryz.prog.looks [] := by kernel_rfl
end Go.Proofs.YtegokcjfjopdoaaGreatDoor.promiseLocks
