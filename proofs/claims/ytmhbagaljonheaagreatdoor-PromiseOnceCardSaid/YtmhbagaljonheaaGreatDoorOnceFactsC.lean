/- Closed facts of the card of PromiseOnce, one theorem each. -/
import Derived.Test.YtmhbagaljonheaaGreatDoorRows
import Derived.ProofKit
import Derived.OpenShut
import Derived.SevenTiedAt
namespace Go.Proofs.YtmhbagaljonheaaGreatDoor.promiseOnce
set_option maxRecDepth 100000
theorem c1 : Rows.promiseOnceRow.wfByText (OpenSpec.ofChange Rows.promiseOnceSpec) = true := by kernel_rfl
theorem c2 : Tryz.prog.mainIs = some (true, "ab9a556efb875ba3d22a2be84cb6598a0aa863f07a9ab79eb5693b2967b8e9bb".toList) := by kernel_rfl
theorem c3 : true = Tryz.prog.looks [] := by kernel_rfl
end Go.Proofs.YtmhbagaljonheaaGreatDoor.promiseOnce
