/- MachineFull: its runs, seen by the kernel: the heap is filled up to its limit, and a panic is recovered. -/
import Derived.Test.YtbckjaoljeimgaaGreatDoorFullY
import Derived.KernelRfl
namespace Go.Proofs.YtbckjaoljeimgaaGreatDoor
open Go Go.Ev
set_option maxRecDepth 1000000
set_option maxHeartbeats 40000000
theorem fullz : runY cQ 0 100000 (.int .u8 0) ⟨[], []⟩ = .ok := by kernel_rfl
end Go.Proofs.YtbckjaoljeimgaaGreatDoor
