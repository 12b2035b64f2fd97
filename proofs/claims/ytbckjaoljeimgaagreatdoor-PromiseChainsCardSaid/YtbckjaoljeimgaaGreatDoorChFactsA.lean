/- Closed facts of the row of PromiseChains, one theorem each: what the function reaches, recursion and the variables named. -/
import Derived.Test.YtbckjaoljeimgaaGreatDoorRows
import Derived.ProofKit
import Derived.OpenShut
namespace Go.Proofs.YtbckjaoljeimgaaGreatDoor.promiseChains
set_option maxRecDepth 100000
theorem k10 : (Rows.promiseChainsRow.inPlace == Tryz.prog.inPlace 4) = true := by kernel_rfl
theorem k11 : (Rows.promiseChainsRow.unfollowed == Tryz.prog.unfollowed 4) = true := by kernel_rfl
theorem k12 : (Rows.promiseChainsRow.recurses == Tryz.prog.recurses 4) = true := by kernel_rfl
theorem k13 : (Rows.promiseChainsRow.named == Tryz.prog.varsNamed 4) = true := by kernel_rfl
end Go.Proofs.YtbckjaoljeimgaaGreatDoor.promiseChains
