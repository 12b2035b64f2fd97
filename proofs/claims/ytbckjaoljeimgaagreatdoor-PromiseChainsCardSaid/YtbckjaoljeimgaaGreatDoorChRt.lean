/- PromiseChains: runs, seen by the kernel (Then, Resolve, Status). -/
import Derived.Test.YtbckjaoljeimgaaGreatDoorChU
import Derived.KernelRfl
namespace Go.Proofs.YtbckjaoljeimgaaGreatDoor
open Go Go.Ev
set_option maxRecDepth 1000000
set_option maxHeartbeats 400000000
theorem thAll : okA thX 0 80 = okT 80 := by kernel_rfl
theorem reAll : okA reX 0 80 = okT 80 := by kernel_rfl
theorem reZ : re0 = .ok := by kernel_rfl
theorem stAll : okA stX 0 40 = okT 40 := by kernel_rfl
theorem stZ : stt0 = .ok := by kernel_rfl
end Go.Proofs.YtbckjaoljeimgaaGreatDoor
