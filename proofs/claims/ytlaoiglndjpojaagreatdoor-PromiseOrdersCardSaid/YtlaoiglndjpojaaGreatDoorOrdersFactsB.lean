/- Closed facts of the row of PromiseOrders, one theorem each: recursion and the variables named. -/
import Derived.Test.YtlaoiglndjpojaaGreatDoorRows
import Derived.ProofKit
import Derived.OpenShut
namespace Go.Proofs.YtlaoiglndjpojaaGreatDoor.promiseOrders
set_option maxRecDepth 100000
theorem k12 : (Rows.promiseOrdersRow.recurses == Tryz.prog.recurses 3) = true := by kernel_rfl
theorem k13 : (Rows.promiseOrdersRow.named == Tryz.prog.varsNamed 3) = true := by kernel_rfl
end Go.Proofs.YtlaoiglndjpojaaGreatDoor.promiseOrders
