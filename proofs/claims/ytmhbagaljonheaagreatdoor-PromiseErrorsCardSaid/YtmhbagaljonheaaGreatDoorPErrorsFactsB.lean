/- Closed facts of the row of PromiseErrors, one theorem each: recursion and the variables named. -/
import Derived.Test.YtmhbagaljonheaaGreatDoorRows
import Derived.ProofKit
import Derived.OpenShut
namespace Go.Proofs.YtmhbagaljonheaaGreatDoor.promiseErrors
set_option maxRecDepth 100000
theorem k12 : (Rows.promiseErrorsRow.recurses == Tryz.prog.recurses 5) = true := by kernel_rfl
theorem k13 : (Rows.promiseErrorsRow.named == Tryz.prog.varsNamed 5) = true := by kernel_rfl
end Go.Proofs.YtmhbagaljonheaaGreatDoor.promiseErrors
