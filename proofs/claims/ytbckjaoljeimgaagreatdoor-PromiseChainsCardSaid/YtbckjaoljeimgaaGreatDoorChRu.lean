/- PromiseChains: runs, seen by the kernel (Finish: the last job, the last round). -/
import Derived.Test.YtbckjaoljeimgaaGreatDoorChU
import Derived.KernelRfl
namespace Go.Proofs.YtbckjaoljeimgaaGreatDoor
open Go Go.Ev
set_option maxRecDepth 1000000
set_option maxHeartbeats 400000000
theorem seAll : okA seX 0 100 = okT 100 := by kernel_rfl
theorem enAll : okA enX 0 20 = okT 20 := by kernel_rfl
theorem enZ : en0 = .ok := by kernel_rfl
end Go.Proofs.YtbckjaoljeimgaaGreatDoor
