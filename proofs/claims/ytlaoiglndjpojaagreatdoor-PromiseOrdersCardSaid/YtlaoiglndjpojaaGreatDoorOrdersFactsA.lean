/- Closed facts of the row of PromiseOrders, one theorem each: what the function reaches. -/
import Derived.Test.YtlaoiglndjpojaaGreatDoorRows
import Derived.ProofKit
import Derived.OpenShut
namespace Go.Proofs.YtlaoiglndjpojaaGreatDoor.promiseOrders
set_option maxRecDepth 100000
theorem k10 : (Rows.promiseOrdersRow.inPlace == Tryz.prog.inPlace 3) = true := by kernel_rfl
theorem k11 : (Rows.promiseOrdersRow.unfollowed == Tryz.prog.unfollowed 3) = true := by kernel_rfl
end Go.Proofs.YtlaoiglndjpojaaGreatDoor.promiseOrders
