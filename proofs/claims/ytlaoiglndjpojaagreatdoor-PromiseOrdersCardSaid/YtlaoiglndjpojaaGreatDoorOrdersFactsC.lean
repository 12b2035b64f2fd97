/- Closed facts of the card of PromiseOrders, one theorem each. -/
import Derived.Test.YtlaoiglndjpojaaGreatDoorRows
import Derived.ProofKit
import Derived.OpenShut
import Derived.SevenTiedAt
namespace Go.Proofs.YtlaoiglndjpojaaGreatDoor.promiseOrders
set_option maxRecDepth 100000
theorem c1 : Rows.promiseOrdersRow.wfByText (OpenSpec.ofChange Rows.promiseOrdersSpec) = true := by kernel_rfl
theorem c2 : Tryz.prog.mainIs = some (true, "26187de43cd22af44e129b785c25da171f9e1ad7d65e6f8e95d05185cdff67ba".toList) := by kernel_rfl
theorem c3 : true = Tryz.prog.looks [] := by kernel_rfl
end Go.Proofs.YtlaoiglndjpojaaGreatDoor.promiseOrders
