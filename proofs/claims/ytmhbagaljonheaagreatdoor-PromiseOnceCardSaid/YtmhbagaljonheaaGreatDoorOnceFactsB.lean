/- Closed facts of the row of PromiseOnce, one theorem each: recursion and the variables named. -/
import Derived.Test.YtmhbagaljonheaaGreatDoorRows
import Derived.ProofKit
import Derived.OpenShut
namespace Go.Proofs.YtmhbagaljonheaaGreatDoor.promiseOnce
set_option maxRecDepth 100000
theorem k12 : (Rows.promiseOnceRow.recurses == Tryz.prog.recurses 4) = true := by kernel_rfl
theorem k13 : (Rows.promiseOnceRow.named == Tryz.prog.varsNamed 4) = true := by kernel_rfl
end Go.Proofs.YtmhbagaljonheaaGreatDoor.promiseOnce
